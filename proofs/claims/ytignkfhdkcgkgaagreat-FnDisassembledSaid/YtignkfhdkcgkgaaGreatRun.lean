/- A step of the program's emulator. EmuRun of the program. -/
import Derived.Test.YtignkfhdkcgkgaaGreatData
import Derived.Test.YtignkfhdkcgkgaaGreatDecoS
import Derived.Test.YtignkfhdkcgkgaaGreatRunPure
import Derived.Test.YtignkfhdkcgkgaaGreatVal
namespace Go.Proofs.YtignkfhdkcgkgaaGreat
set_option maxRecDepth 100000
open Go.RowKit

set_option maxHeartbeats 4000000 in
theorem step_any (g:Nat) (d:Dev) (ts:List Tile) (TA:Option Addr) (m tc:Nat) (EA DA:Option Addr) (N:Nat) (SA:Option Addr) (sn sc:Nat) (st:List Int) (PA:Option Addr) (pn pc:Nat) (pads:List Int) (w:World)
  (hem:EmuAt w g d ts TA m tc EA DA N) (hN:(N:Int)=nodesOf d) (hst:Ints w SA sn st) (hpa:Ints w PA pn pads) (hsn:(sn:Int)=2 * (d.W * d.H)) (hpn:(pn:Int)=d.W * d.H) (hsp:StPads d ts st pads) (hc:CfgOk d ts) :
  Calls Tryz.prog 149 #[.pointer (some ⟨g,0,none⟩),.slice SA sn sc,.slice PA pn pc] w fun e' w'=>∃A1 c1 A2 mid,e' = .returned (.tuple #[.slice A1 sn c1,.slice A2 m m])∧Own w.heap.size w' A1 sn c1 (nextF d ts st pads)∧Own w.heap.size w' A2 m m (outF d ts st pads)∧(w.heap.size≤mid∧mid≤w'.heap.size∧Lies A1 w.heap.size mid∧Lies A2 mid w'.heap.size)∧Below w.heap.size w w':=by
 have HEM:=Lib.hid hem
 have HST:=Lib.hid hst
 have HPA:=Lib.hid hpa
 have HC:=Lib.hid hc
 have HNE:=Lib.hid hN
 have HSP:=Lib.hid hsp
 have HTL:=Lib.hid hem.tiles.tlen
 have hmt:m=tiles d:=by rw [←hem.tiles.tlen];exact hc.len
 have hWH:=(tiles_eq hc.dev)
 have hsm:sn=2 * m:=by omega
 have hm36:m≤36:=by omega
 have hm0:0<m:=by omega
 have HV:=Lib.hid (values_any g d ts TA m tc EA DA N SA sn sc st PA pn pc pads w hem hN hst hpa hsn hpn hsp hc)
 obtain ⟨b0,b1,b2,b3,b4,b5,b6⟩:w.cell? ⟨g,0,none⟩=some (.int .i64 d.W)∧w.cell? ⟨g,1,none⟩=some (.int .i64 d.H)∧w.cell? ⟨g,2,none⟩=some (.int .i64 d.T)∧w.cell? ⟨g,3,none⟩=some (.int .i64 d.R)∧w.cell? ⟨g,4,none⟩=some (.slice TA m tc)∧w.cell? ⟨g,5,none⟩=some (.slice EA N N)∧w.cell? ⟨g,6,none⟩=some (.slice DA N N) :=
  ⟨cell_heap hem.box rfl,cell_heap hem.box rfl,cell_heap hem.box rfl,cell_heap hem.box rfl,cell_heap hem.box rfl,cell_heap hem.box rfl,cell_heap hem.box rfl⟩
 have hgl:=heap_lt0 hem.box
 obtain ⟨i0,hi,hz0,hz1,hz2⟩:=info_parts int_info
 have hmk:=fun W=>run_make_rowN (P:=Tryz.prog) 27 3 i0 _ Tryz.underlying27 hi hz0 .i64 .i64 m m (Nat.le_refl _) (by rw [hz2];omega) (by omega) W
 rw [hz1,Nat.mul_one,show (Value.int .i64 0).cells=#[Value.int .i64 0] from rfl,arr_made] at hmk
 have HMT:=Lib.hid hmt
 have HSM:=Lib.hid hsm
 have hsb:0<sn∧sn≤72:=by omega
 clear hem hst hpa hc hN hsp hi hz0 hz1 hz2 hWH hsn hpn hmt hsm
 go_enter Tryz.func149,Tryz.ntmps149
 go_wp2_with fail
 refine HV.out.mono ?_
 rintro e w1 ⟨VA,rfl,o1,k1⟩
 have OV:=Lib.hid o1
 have B1:=Lib.hid k1
 have hs1:=k1.size
 obtain ⟨hcc,hff⟩:=bcell k1
 clear o1 k1
 go_wp2_with fail
 refine (copyInts_any SA sn sc st _ (HST.out.below B1.out) (by omega)).mono ?_
 rintro e w2 ⟨NA,nc,rfl,o2,k2⟩
 have ON:=Lib.hid o2
 have B2:=Lib.hid k2
 have B12:=Lib.hid (below_tr B1.out k2)
 have hs2:=k2.size
 clear o2 k2 hcc hff
 obtain ⟨hcc,hff⟩:=bcell B12.out
 have hg2:g<w2.heap.size:=by omega
 go_wp2_with fail
 clear hmk hcc hff
 obtain ⟨gn,cur,rfl,hgn,hgn2,-⟩:=ON.out.block (by omega)
 obtain ⟨gv,curv,rfl,hgv,hgv2,-⟩:=OV.out.block (by have:=HNE.out;have:=nodesOf_bd HC.out.dev;omega)
 have HV3:=Lib.hid (valsF_in3 HSP.out)
 have HVL:=Lib.hid (valsF_length d ts st pads)
 have HNF:Hid (nextF d ts st pads=nextTo d ts st (valsF d ts st pads) m):=by show _=_;rw [nextF,HTL.out]
 have HOF:Hid (outF d ts st pads=outTo d ts (valsF d ts st pads) m m):=by show _=_;rw [outF,HTL.out]
 have HNL:=Lib.hid (fun vs k=>nextTo_length d ts st vs k)
 generalize valsF d ts st pads=vs at *
 have HO0:Hid (Own w1.heap.size (w2.alloc (.cells (arr (List.replicate m 0)) 3)) (some ⟨w2.heap.size,0,none⟩) m m (outTo d ts vs m 0)):=Own.arr (heap_new w2 _) hs2 (by unfold maxLen;omega) (by simp [outTo])
 have HN0:Hid (Own w1.heap.size (w2.alloc (.cells (arr (List.replicate m 0)) 3)) (some ⟨gn,0,none⟩) sn nc (nextTo d ts st vs 0)):=ON.out.below (below_new (Below.refl _ _) _)
 go_loopw [34] (fun i wr=>∃k:Nat,k≤m∧i = .int .i64 k∧Own w1.heap.size wr (some ⟨gn,0,none⟩) sn nc (nextTo d ts st vs k)∧Own w1.heap.size wr (some ⟨w2.heap.size,0,none⟩) m m (outTo d ts vs m k)∧Below w1.heap.size w1 wr∧w2.heap.size<wr.heap.size) (fun i _=>m - (intOf i).toNat)
 case atStart=>exact ⟨0,Nat.zero_le _,rfl,HN0.out,HO0.out,below_new B2.out _,by simp⟩
 case round =>
  obtain ⟨k,hk,rfl,ho1,ho2,hbx,hsx⟩:=hrel
  have O1:=Lib.hid ho1
  have O2:=Lib.hid ho2
  have HBX:=Lib.hid hbx
  clear ho1 ho2 hbx
  by_cases hlt:k<m
  ·have hti:tileIn d (k:Int)=true:=tileIn_iff.2 ⟨HC.out.dev,by omega,by have:=HMT.out;have:=(tiles_eq HC.out.dev).1;omega⟩
   have hnb:=node_bd hti (k:=4) (by omega) (by have:=perT_bd HC.out.dev;omega)
   have hpt:=perT_bd HC.out.dev
   have hT:=(devOk_bd HC.out.dev)
   obtain ⟨bn,hbn⟩:∃bn:Nat,(k:Int) * perT d=(bn:Int):=⟨((k:Int) * perT d).toNat,by omega⟩
   have hbN:bn+4<N:=by have:=HNE.out;omega
   have hbl:bn≤805:=by omega
   have HTI:=Lib.hid hti
   have HBN:=Lib.hid hbn
   obtain ⟨b,o,S,m3,p,L,l,q,rfl,hb,c0,c1,c2,c3,r0,r1⟩:=HEM.out.tiles.tile (k:=k) (by rw [HTL.out];exact hlt)
   have R1:=Lib.hid r1
   obtain ⟨hcc,hff⟩:=bcell (below_tr B1.out HBX.out)
   have hs3:=HBX.out.size
   have hgr:g<wr.heap.size:=by omega
   have i0:(0:Int)≤(k:Int):=by omega
   have i1:(k:Int)<(m:Int):=by omega
   have HNX:Hid (nextTo d ts st vs (k+1)=nx1 d ts st vs k (nextTo d ts st vs k)):=rfl
   have HOX:Hid (outTo d ts vs m (k+1)=ou1 d ts vs k (outTo d ts vs m k)):=rfl
   have HTE:Hid (tileAt ts (k:Int)=ts[k]?.getD Tile.zero):=by show _=_;unfold tileAt;rw [Int.toNat_natCast]
   clear r0 r1 hnb hti hbn
   generalize hte:ts[k]?.getD Tile.zero=te at *
   have HTT:=Lib.hid hte
   clear hte
   go_wp2_with fail
   refine (perTile_any d _ (by omega) (by omega)).mono ?_
   rintro e w5 ⟨rfl,b5⟩
   have HB5:=Lib.hid (below_tr (below_new (Below.refl wr.heap.size wr) _) b5)
   have T5:=Lib.hid (heap_tr b5 (heap_new wr _))
   have hs5:=b5.size
   simp only [World.size_alloc] at hs5
   have a1:IntKind.i64.wrap (bn:Int)=(bn:Int):=IntWalk.i64_in _ (by omega)
   have HK5:=Lib.hid (below_tr (below_tr B1.out HBX.out) HB5.out)
   clear b5 hcc hff c0 c1 c2 c3
   obtain ⟨hcc,hff⟩:=bcell HK5.out
   have hbn:=HBN.out
   go_wp2_with fail
   refine (tileKind_any d k _ HC.out.dev (by omega) (by omega)).mono ?_
   rintro e w6 ⟨rfl,b6⟩
   have HB6:=Lib.hid (below_tr HB5.out b6)
   have T6:=Lib.hid (heap_tr b6 T5.out)
   have hs6:=b6.size
   have HK6:=Lib.hid (below_tr HK5.out b6)
   have P1:=Lib.hid (O1.out.below HB6.out)
   have P2:=Lib.hid (O2.out.below HB6.out)
   have OV6:=Lib.hid (OV.out.below (below_tr HBX.out HB6.out))
   have HBX6:=Lib.hid (below_tr HBX.out HB6.out)
   clear b6 hcc hff hbn
   have hk3:=kindOf_bd d (k:Int)
   have HNX1:Hid (nx1 d ts st vs k (nextTo d ts st vs k)=if kindOf d (k:Int)=1 then flopTo d ts vs k (nextTo d ts st vs k) 2 else if kindOf d (k:Int)=2 then (nextTo d ts st vs k).set (2 * k) ((ramNext (st[2 * k]?.getD 0).toNat (inTo d vs (k:Int) 4):Nat):Int) else nextTo d ts st vs k):=rfl
   have HOX1:Hid (ou1 d ts vs k (outTo d ts vs m k)=if kindOf d (k:Int)=0∧te.pad=2 then (outTo d ts vs m k).set k (mx (nv vs (bn:Int))) else outTo d ts vs m k):=by show _=_;unfold ou1;rw [HTT.out,HBN.out]
   generalize hkd:kindOf d (k:Int)=kd at *
   have HKD:=Lib.hid hkd
   clear hkd
   obtain ⟨hcc,hff⟩:=bcell HK6.out
   have hw6:wr.heap.size<w6.heap.size:=by omega
   rcases hk3 with h|h|h
   ·subst h
    have t2:=cell_heap (k:=2) T6.out rfl
    by_cases hp:te.pad=2
    ·have q1:(te.pad==2)=true:=by simpa using hp
     have HNS:Hid (nextTo d ts st vs (k+1)=nextTo d ts st vs k):=by show _=_;rw [HNX.out,HNX1.out,if_neg (by omega),if_neg (by omega)]
     have HOS:Hid (outTo d ts vs m (k+1)=(outTo d ts vs m k).set k (mx (nv vs (bn:Int)))):=by show _=_;rw [HOX.out,HOX1.out,if_pos ⟨rfl,hp⟩]
     obtain ⟨zv,yv⟩:=OV6.out.cellAt (k:=bn) (by omega)
     have HVN:Hid (vs[bn]?.getD 0=nv vs (bn:Int)):=by show _=_;unfold nv;rw [Int.toNat_natCast]
     rw [HVN.out] at zv
     obtain ⟨zo,yo⟩:=P2.out.cellAt hlt
     have k0:(0:Int)≤(bn:Int):=by omega
     have k1:(bn:Int)<(N:Int):=by omega
     clear hp
     go_wp2_with fail
     go_roundw
     case rel=>exact ⟨k+1,by omega,by go_num,by rw [HNS.out];exact P1.out.off (p:=⟨w2.heap.size,k,none⟩) (by rintro a h;injection h with h;subst h;show gn≠w2.heap.size;omega) _,by rw [HOS.out];exact P2.out.stored hlt (mx (nv vs (bn:Int))),HBX6.out.setCell (p:=⟨w2.heap.size,k,none⟩) hs2 _,by simp only [World.size_setCell];omega⟩
     case measure=>simp [intOf];omega
    ·have q1:(te.pad==2)=false:=by simp [hp]
     have HNS:Hid (nextTo d ts st vs (k+1)=nextTo d ts st vs k):=by show _=_;rw [HNX.out,HNX1.out,if_neg (by omega),if_neg (by omega)]
     have HOS:Hid (outTo d ts vs m (k+1)=outTo d ts vs m k):=by show _=_;rw [HOX.out,HOX1.out,if_neg (by rintro ⟨_,h2⟩;exact hp h2)]
     clear hp
     go_wp2_with fail
     go_roundw
     case rel=>exact ⟨k+1,by omega,by go_num,by rw [HNS.out];exact P1.out,by rw [HOS.out];exact P2.out,HBX6.out,by omega⟩
     case measure=>simp [intOf];omega
   ·subst h
    have HNS:Hid (nextTo d ts st vs (k+1)=flopTo d ts vs k (nextTo d ts st vs k) 2):=by show _=_;rw [HNX.out,HNX1.out,if_pos rfl]
    have HOS:Hid (outTo d ts vs m (k+1)=outTo d ts vs m k):=by show _=_;rw [HOX.out,HOX1.out,if_neg (by omega)]
    have HLU:=Lib.hid (fun (e:Nat) (he:e<2) (w':World) (hb:Below w.heap.size w w') (hv:Ints w' (some ⟨gv,0,none⟩) N vs)=>lut_any g d ts (some ⟨b,o,none⟩) m tc EA DA N (some ⟨gv,0,none⟩) N vs (k:Int) (e:Int) w' (HEM.out.below hb) hv HV3.out HNE.out HC.out HTI.out ⟨by omega,by omega⟩)
    have HFT:Hid (∀e:Nat,flopTo d ts vs k (nextTo d ts st vs k) (e+1)=if (leAt ts (k:Int) (e:Int)).flop=1 then (flopTo d ts vs k (nextTo d ts st vs k) e).set (2 * k+e) (mx (lutF d vs (k:Int) (leAt ts (k:Int) (e:Int)))) else flopTo d ts vs k (nextTo d ts st vs k) e):=fun e=>rfl
    have HLQ:Hid (∀e:Nat,e<2→leAt ts (k:Int) (e:Int)=te.les[e]?.getD Le.zero):=fun e _=>by unfold leAt;rw [HTE.out,Int.toNat_natCast]
    have hll:te.les.length=2:=by have h:=(le_fit (e:=0) HC.out HTI.out (by omega)).2.1;rw [HTE.out] at h;exact h
    have HLL:=Lib.hid hll
    have hl2:l=2:=by have h:=R1.out.elen;omega
    subst hl2
    have P0:Hid (Own w1.heap.size w6 (some ⟨gn,0,none⟩) sn nc (flopTo d ts vs k (nextTo d ts st vs k) 0)):=P1.out
    clear hll
    generalize hgc:wr.heap.size=gc at *
    have HGC:=Lib.hid hgc
    clear hgc
    go_wp2_with fail
    clear hcc hff
    go_loopw [16] (fun i wx=>∃j:Nat,j≤2∧i = .int .i64 j∧Own w1.heap.size wx (some ⟨gn,0,none⟩) sn nc (flopTo d ts vs k (nextTo d ts st vs k) j)∧Own w1.heap.size wx (some ⟨w2.heap.size,0,none⟩) m m (outTo d ts vs m k)∧Below w1.heap.size w1 wx∧wx.heap[gc]?=some (.cells #[.slice S m3 p,.slice L 2 q,.int .i64 te.pad,.int .i64 te.ram] 103 (0,0))) (fun i _=>2 - (intOf i).toNat)
    case atStart=>exact ⟨0,by omega,rfl,P0.out,P2.out,HBX6.out,T6.out⟩
    case round =>
     obtain ⟨j,hj,rfl,hn1,hn2,hbw,htw⟩:=hrel
     have N1:=Lib.hid hn1
     have N2:=Lib.hid hn2
     have BW:=Lib.hid hbw
     have TW:=Lib.hid htw
     have hsx2:=hbw.size
     have htl:=heap_lt0 htw
     have t1:=cell_heap (k:=1) htw rfl
     clear hn1 hn2 hbw htw
     by_cases hjl:j<2
     ·have hdj:decide ((j:Int)<2)=true:=by simp;omega
      obtain ⟨bl,ol,S4,m4,p4,rfl,hbl,d0,d1,d2,d3,r4⟩:=R1.out.le (k:=j) (by rw [HLL.out];exact hjl)
      have HFJ:=Lib.hid (HFT.out j)
      have HLJ:=Lib.hid (HLU.out j hjl)
      have hlq:=HLQ.out j hjl
      rw [←hlq] at d2
      obtain ⟨hcc,hff⟩:=bcell (below_tr B1.out BW.out)
      have j0:(0:Int)≤(j:Int):=by omega
      have j1:(j:Int)<2:=by omega
      have hblx:bl<wr.heap.size:=by omega
      clear d0 d1 d3 r4 hlq
      generalize leAt ts (k:Int) (j:Int)=le at *
      by_cases hf:le.flop=1
      ·have q1:(le.flop==1)=true:=by simpa using hf
       have HFS:Hid (flopTo d ts vs k (nextTo d ts st vs k) (j+1)=(flopTo d ts vs k (nextTo d ts st vs k) j).set (2 * k+j) (mx (lutF d vs (k:Int) le))):=by show _=_;rw [HFJ.out,if_pos hf]
       have n0:(0:Int)≤2 * (k:Int)+(j:Int):=by omega
       have n1:2 * (k:Int)+(j:Int)<(sn:Int):=by have:=HSM.out;omega
       have a5:IntKind.i64.wrap (2 * (k:Int))=2 * (k:Int):=IntWalk.i64_in _ (by omega)
       have a6:IntKind.i64.wrap (2 * (k:Int)+(j:Int))=2 * (k:Int)+(j:Int):=IntWalk.i64_in _ (by omega)
       clear hf
       go_wp2_with fail
       refine (HLJ.out _ (below_tr B1.out BW.out) (OV.out.below BW.out).ints).mono ?_
       rintro e8 w8 ⟨rfl,b8⟩
       have N18:=Lib.hid (N1.out.below b8)
       have N28:=Lib.hid (N2.out.below b8)
       have BW8:=Lib.hid (below_tr BW.out b8)
       have TW8:=Lib.hid (heap_tr b8 TW.out)
       have hs8:=b8.size
       obtain ⟨zo,yo⟩:=N18.out.cellAt (k:=2 * k+j) (by have:=HSM.out;omega)
       clear b8 hcc hff d2
       generalize lutF d vs (k:Int) le=lv at *
       go_wp2_with fail
       go_roundw
       case rel=>exact ⟨j+1,by omega,by go_num,by rw [HFS.out];exact N18.out.stored (by have:=HSM.out;omega) (mx lv),N28.out.off (p:=⟨gn,2 * k+j,none⟩) (by rintro a h;injection h with h;subst h;show w2.heap.size≠gn;omega) _,BW8.out.setCell (p:=⟨gn,2 * k+j,none⟩) hgn _,heap_set_far TW8.out (by show gc≠gn;omega) _⟩
       case measure=>simp [intOf];omega
      ·have q1:(le.flop==1)=false:=by simp [hf]
       have HFS:Hid (flopTo d ts vs k (nextTo d ts st vs k) (j+1)=flopTo d ts vs k (nextTo d ts st vs k) j):=by show _=_;rw [HFJ.out,if_neg hf]
       clear hf
       go_wp2_with fail
       go_roundw
       case rel=>exact ⟨j+1,by omega,by go_num,by rw [HFS.out];exact N1.out,N2.out,BW.out,TW.out⟩
       case measure=>simp [intOf];omega
     ·have hj2:j=2:=by omega
      subst hj2
      have hdj:decide (((2:Nat):Int)<2)=false:=by decide
      clear hjl hj
      go_wp2_with fail
      go_roundw
      case rel=>exact ⟨k+1,by omega,by go_num,by rw [HNS.out];exact N1.out,by rw [HOS.out];exact N2.out,BW.out,by omega⟩
      case measure=>simp [intOf];omega
   ·subst h
    have HNS:Hid (nextTo d ts st vs (k+1)=(nextTo d ts st vs k).set (2 * k) ((ramNext (st[2 * k]?.getD 0).toNat (inTo d vs (k:Int) 4):Nat):Int)):=by show _=_;rw [HNX.out,HNX1.out,if_neg (by omega),if_pos rfl]
    have HOS:Hid (outTo d ts vs m (k+1)=outTo d ts vs m k):=by show _=_;rw [HOX.out,HOX1.out,if_neg (by omega)]
    have HIL:=Lib.hid (fun j=>inTo_lt (d:=d) HV3.out (k:Int) j)
    have HIS:Hid (∀j:Nat,inTo d vs (k:Int) (j+1)=inTo d vs (k:Int) j+(mx (nv vs ((k:Int) * perT d+(j:Int)))).toNat * 2 ^ j):=fun j=>rfl
    have HMX:=Lib.hid (fun i=>mx_in HV3.out i)
    go_wp2_with fail
    go_loopw [14,15] (fun v i wx=>∃j:Nat,j≤4∧i = .int .i64 j∧v = .int .i64 ((inTo d vs (k:Int) j:Nat):Int)∧w6=wx) (fun _ i _=>4 - (intOf i).toNat)
    case atStart=>exact ⟨0,by omega,rfl,rfl,rfl⟩
    case round =>
     obtain ⟨j,hj,rfl,rfl,rfl⟩:=hrel
     by_cases hjl:j<4
     ·have hdj:decide ((j:Int)<4)=true:=by simp;omega
      obtain ⟨zv,yv⟩:=OV6.out.cellAt (k:=bn+j) (by omega)
      have HVN:Hid (vs[bn+j]?.getD 0=nv vs ((k:Int) * perT d+(j:Int))):=by show _=_;rw [HBN.out];unfold nv;rw [show ((bn:Int)+(j:Int)).toNat=bn+j by omega]
      rw [HVN.out] at zv
      have k0:(0:Int)≤(bn:Int)+(j:Int):=by omega
      have k1:(bn:Int)+(j:Int)<(N:Int):=by omega
      have a4:IntKind.i64.wrap ((bn:Int)+(j:Int))=(bn:Int)+(j:Int):=IntWalk.i64_in _ (by omega)
      have j0:(0:Int)≤(j:Int):=by omega
      have j1:(j:Int)<4:=by omega
      have hil:=HIL.out j
      have his:=HIS.out j
      have hmx:=HMX.out ((k:Int) * perT d+(j:Int))
      have HISJ:=Lib.hid his
      have HILJ:=Lib.hid hil
      have HMXJ:=Lib.hid hmx
      clear his hil hmx
      generalize nv vs ((k:Int) * perT d+(j:Int))=x at *
      go_wp2_with fail
      go_roundw
      case rel =>
       refine ⟨j+1,by omega,by go_num,?_,trivial⟩
       obtain ⟨y,hy⟩:=Int.eq_ofNat_of_zero_le HMXJ.out.1
       have h:=HISJ.out
       rw [hy,Int.toNat_natCast] at h
       refine congrArg (Value.int .i64) ?_
       rw [h,←or_bit HILJ.out (show y≤1 by have:=HMXJ.out.2;omega) (by omega),←hy]
       rfl
      case measure=>simp [intOf];omega
     ·have hj4:j=4:=by omega
      subst hj4
      have hin:=HIL.out 4
      have hsr:=HSP.out.ram (k:Int) HTI.out HKD.out
      obtain ⟨bs,os,rfl,hbs,hcs⟩:=HST.out.2 (by omega)
      have hck:=hcs (2 * k) (by have:=HSM.out;omega)
      have hsv:st[2 * k]?.getD 0=nv st (2 * (k:Int)):=by unfold nv;rw [show (2 * (k:Int)).toNat=2 * k by omega]
      rw [hsv] at hck
      have HSV:=Lib.hid hsv
      obtain ⟨sv,hse⟩:=Int.eq_ofNat_of_zero_le hsr.1
      rw [hse] at hck hsr HSV
      have HNS2:Hid (nextTo d ts st vs (k+1)=(nextTo d ts st vs k).set (2 * k) ((ramNext sv (inTo d vs (k:Int) 4):Nat):Int)):=by show _=_;rw [HNS.out,HSV.out,Int.toNat_natCast]
      generalize inTo d vs (k:Int) 4=iv at *
      obtain ⟨zo,yo⟩:=P1.out.cellAt (k:=2 * k) (by have:=HSM.out;omega)
      have HSQ:=Lib.hid (fun w'=>seqNext_ram sv iv (by omega) (by omega) w')
      have n0:(0:Int)≤2 * (k:Int):=by omega
      have n1:2 * (k:Int)<(sn:Int):=by have:=HSM.out;omega
      have a5:IntKind.i64.wrap (2 * (k:Int))=2 * (k:Int):=IntWalk.i64_in _ (by omega)
      have hdj:decide (((4:Nat):Int)<4)=false:=by decide
      have hbs6:bs<w6.heap.size:=by have:=HK6.out.size;omega
      clear hcs hse hsv HNS hjl hj
      go_wp2_with (go_at_call 151;refine (HSQ.out _).mono ?_;rintro e' w' ⟨rfl,rfl⟩)
      go_roundw
      case rel=>exact ⟨k+1,by omega,by go_num,by rw [HNS2.out];exact P1.out.stored (by have:=HSM.out;omega) _,by rw [HOS.out];exact P2.out.off (p:=⟨gn,2 * k,none⟩) (by rintro a h;injection h with h;subst h;show w2.heap.size≠gn;omega) _,HBX6.out.setCell (p:=⟨gn,2 * k,none⟩) hgn _,by simp only [World.size_setCell];omega⟩
      case measure=>simp [intOf];omega
  ·have hkm:m=k:=by omega
   subst hkm
   go_wp2_with fail
   go_ret2
   refine ⟨some ⟨gn,0,none⟩,nc,some ⟨w2.heap.size,0,none⟩,w2.heap.size,rfl,by rw [HNF.out];exact O1.out.more hs1,by rw [HOF.out];exact O2.out.more hs1,⟨by omega,by omega,?_,?_⟩,below_tr B1.out HBX.out⟩
   ·rintro a h;injection h with h;subst h;exact ⟨by show _≤gn;omega,hgn2⟩
   ·rintro a h;injection h with h;subst h;exact ⟨Nat.le_refl _,hsx⟩
end Go.Proofs.YtignkfhdkcgkgaaGreat

namespace Go.Proofs.YtignkfhdkcgkgaaGreat
set_option maxRecDepth 100000
open Go.RowKit

/-- Appending a row to rows of the call's own: rows of integers that the call owns stay. -/
theorem wpList_push2k {ops:Array Oper} {rest:List Oper} {o:Oper} {a:Act} {Q:Exit→Act→World→Prop} {w W:World} (hgd:o.guard=none) (s x:Operand)
  (ho:o.op = .call { callee := .builtin .append,args:=#[s,x],argTypes:=#[26,26] })
  (lo hi:Nat) (A:Option Addr) (n c:Nat) (xss:List (List Int)) (base:Nat) (A1:Option Addr) (m1 c1:Nat) (xs:List Int) (hs:a.eval s = .slice A n c) (hown:Own2 lo hi w A n c xss) (hrow:Own base w A1 m1 c1 xs) (hx:a.eval x = .slice (some ⟨w.heap.size,0,none⟩) 1 1)
  (hn:n≤1099511627776) (hhb:hi≤base) (hlb:lo≤base) (hhw:hi≤w.heap.size) (hlw:lo≤w.heap.size) (hB:Below lo W w)
  (h:∀g cap w',Own2 lo w'.heap.size w' (some ⟨g,0,none⟩) (n+1) cap (xss++[xs])→Below lo W w'→(∀base' A2 n2 c2 ys,Own base' w A2 n2 c2 ys→Own base' w' A2 n2 c2 ys)→(w.alloc (.cells #[.slice A1 m1 c1] 27)).grownBy w' (A.map (·.block))→(A.map (·.block)=some g∨g=w.heap.size+1) →
   wpList Tryz.prog ops Q rest (a.put o.dst (.slice (some ⟨g,0,none⟩) (n+1) cap)) w'):wpList Tryz.prog ops Q (o :: rest) a (w.alloc (.cells #[.slice A1 m1 c1] 27)):=by
 obtain ⟨i0,hi0,hz0,hz1,hz2⟩:=info_parts slc_info
 obtain ⟨vs,h1,h2,h3⟩:=hown
 have hl:=ownsRow_lt h1
 refine wpList_append_lies (w.alloc (.cells #[.slice A1 m1 c1] 27)) hgd s x 26 ho lo 27 i0 (.slice none 0 0) 1 24 Tryz.underlying26 hi0 hz0 hz1 hz2 rfl (by omega) (.slice A n c) n (vs.map SV.val) hs
  (ownsRow_block h1 fun a ha=>Below.heap_alloc _ _ _ (hl a ha).2) ⟨w.heap.size,0,none⟩ 1 1 [.slice A1 m1 c1] hx rfl
  (fun j u hu=>?_) (fun u hu=>?_) (by omega) (by unfold maxLen;omega) (by omega) (by simp;omega) (w.heap.size+1) (by simp) ?_
 ·rcases j with _|j
  ·simp at hu
   subst hu
   rw [add_lit0']
   unfold World.cell?
   rw [heap_new]
   rfl
  ·simp at hu
 ·simp at hu;subst hu;rfl
 ·intro g cap w' k1 k2 k3 k4
  rw [ownBlock_slice] at k2 k3
  have hkeep:∀k e cs f,k<w.heap.size→w.heap[k]?=some (.cells cs e f)→e=3→w'.heap[k]?=w.heap[k]?:=by
   intro k e cs f hk hh he
   refine (k2.block k (by simp;omega) ?_).trans (Below.heap_alloc _ _ _ hk)
   cases hA:A with
   | none=>simp
   | some a' =>
    simp only [Option.map_some,ne_eq,Option.some.injEq]
    rintro rfl
    rcases h1.2 with ⟨hv,_⟩|⟨g',cap',cur',hv,_,hh',_⟩
    ·injection hv with hv _ _
     rw [hA] at hv
     cases hv
    ·injection hv with hv _ _
     rw [hA] at hv
     injection hv with hv
     subst hv
     rw [hh] at hh'
     injection hh' with hh'
     injection hh' with _ hty
     rw [he] at hty
     exact absurd hty (by decide)
  have hin:Inner lo hi w' vs xss:=h3.keep fun k e cs f hk _ _ hh he=>hkeep k e cs f hk hh he
  have hall:∀base' A2 n2 c2 ys,Own base' w A2 n2 c2 ys→Own base' w' A2 n2 c2 ys:=fun base' A2 n2 c2 ys hrw=>ownsRow_block hrw fun a ha=>by
   have hla:=hrw.lt a ha
   rcases hrw.2 with ⟨hv,_⟩|⟨g',cap',cur',hv,_,hh',_⟩
   ·injection hv with hv _ _
    rw [hv] at ha
    cases ha
   ·injection hv with hv _ _
    rw [hv] at ha
    injection ha with ha
    subst ha
    exact hkeep g' _ _ _ hla.2 hh' rfl
  have hro:=hall _ _ _ _ _ hrow
  have hsz:w.heap.size≤w'.heap.size:=by have:=k2.size;simp at this;omega
  have hsn:=hin.snoc hro hhb hlb
  rw [Nat.max_eq_right (by omega)] at hsn
  refine h g cap w' ⟨vs++[(A1,m1,c1)],by simpa [SV.val] using k1,by rintro a ⟨⟩;exact k4,hsn⟩ ?_ ?_ k2 k3
  ·exact own_grown_lo (base:=lo) (hB.alloc hlw _) k2 (fun a ha=>(hl a ha).1) (Nat.le_refl _) (by simp;omega)
  ·exact hall
set_option maxHeartbeats 4000000 in
theorem emuRunI_any (d:Dev) (A:Option Addr) (m c:Nat) (fs:List (List Int)) (PA:Option Addr) (pn pc:Nat) (pads:List (List Int)) (w:World) (hA:Rows2 w A m fs) (hP:Rows2 w PA pn pads) (hf:framesOk d fs=true) (hpn:pn≤16) (hpo:∀j,j<pn→padsOk d (pads[j]?.getD [])=true) :
  Calls Tryz.prog 83 #[.agg #[.int .i64 d.W,.int .i64 d.H,.int .i64 d.T,.int .i64 d.R],.slice A m c,.slice PA pn pc] w fun e w'=>∃A' c',e = .returned (.slice A' pn c')∧Own2 w.heap.size w'.heap.size w' A' pn c' (runO d fs pads pn)∧Below w.heap.size w w':=by
 have HB0:=Lib.hid (below_new (Below.refl w.heap.size w) (.cells #[.int .i64 d.W,.int .i64 d.H,.int .i64 d.T,.int .i64 d.R] 25))
 have HI:=Lib.hid hA
 have HP:=Lib.hid hP
 have HF:=Lib.hid hf
 have HPO:=Lib.hid hpo
 clear hA hP hf hpo
 go_enter Tryz.func83,Tryz.ntmps83
 go_wp2_with fail
 refine (emulatorOf_any d A m c fs _ (HI.out.below HB0.out) HF.out).mono ?_
 rintro e w1 ⟨g,TA,tc,EA,DA,rfl,hem,b1⟩
 have D1:=Lib.hid b1
 have B1:=Lib.hid (below_tr HB0.out b1)
 have hs1:=b1.size
 simp only [World.size_alloc] at hs1
 have HEM:=Lib.hid hem
 have hgl:=heap_lt0 hem.box
 have hmt:m=tiles d:=by rw [←(frames_n HF.out).1];exact HI.out.1.symm
 have HMT:=Lib.hid hmt
 have x4:w1.cell? ⟨g,4,none⟩=some (.slice TA m tc):=cell_heap (k:=4) hem.box rfl
 obtain ⟨q0,q1,q2,q3⟩:=keep4 D1.out (by simp) (box4 w d)
 have hww:w.heap.size<w1.heap.size:=by omega
 clear b1 hem hmt
 have HQ:=Lib.hid (And.intro q0 (And.intro q1 (And.intro q2 (And.intro q3 x4))))
 have hD:=Below.refl w1.heap.size w1
 clear q0 q1 q2 q3 x4
 go_wp2_with fail
 go_region_held3 (fun w'=>w'.cell? ⟨w.heap.size,0,none⟩=some (.int .i64 d.W)∧w'.cell? ⟨w.heap.size,1,none⟩=some (.int .i64 d.H)∧w'.cell? ⟨w.heap.size,2,none⟩=some (.int .i64 d.T)∧w'.cell? ⟨w.heap.size,3,none⟩=some (.int .i64 d.R)∧w'.cell? ⟨g,4,none⟩=some (.slice TA m tc))
  (first|with_reducible exact keep5 hD hww hgl HQ.out|with_reducible exact keep5 hD.drew hww hgl HQ.out)
  ((go_at_call 148;(with_reducible refine (emuStart_any d TA m tc (tilesOf d fs) _ (HEM.out.tiles.below (by first|with_reducible exact hD|with_reducible exact hD.drew)) (framesOk_iff HF.out).1 (by have:=HMT.out;have:=tiles_eq (framesOk_iff HF.out).1;omega) (les2_tilesOf d fs)).mono ?_);rintro e w3 ⟨SA,rfl,o3,b3⟩;have O3:=Lib.hid (own_low (a:=w1) (by first|with_reducible exact hD|with_reducible exact hD.drew) o3);have hD2:=below_tr (a:=w1) (by first|with_reducible exact hD|with_reducible exact hD.drew) b3;clear b3 o3;replace hD:=hD2))
 have D3:=Lib.hid hD
 have hs3:=hD.size
 have HS0:Hid (Own w1.heap.size w3 SA (2 * m) (2 * m) (stK d fs pads 0)):=by
  show Own _ _ _ _ _ _
  have e:stK d fs pads 0=startTo d (tilesOf d fs) m:=by show startF d fs=_;rw [startF_good HF.out,HI.out.1]
  rw [e];exact O3.out
 clear hD
 go_wp2_with fail
 go_loopw [8,9,25] (fun sv v i wr=>∃(k:Nat) (SA:Option Addr) (sc:Nat) (A':Option Addr) (c':Nat),k≤pn∧i = .int .i64 k∧sv = .slice SA (2 * m) sc∧v = .slice A' k c'∧Own w.heap.size wr SA (2 * m) sc (stK d fs pads k)∧Own2 w3.heap.size wr.heap.size wr A' k c' (runO d fs pads k)∧Below w3.heap.size w3 wr) (fun _ _ i _=>pn - (intOf i).toNat)
 case atStart=>exact ⟨0,SA,2 * m,none,0,Nat.zero_le _,rfl,rfl,rfl,HS0.out.more B1.out.size,Own2.nil,Below.refl _ _⟩
 case round =>
  obtain ⟨k,SA,sc,A',c',hk,rfl,rfl,rfl,hso,hoo,hb⟩:=hrel
  have HSO:=Lib.hid hso
  have HOO:=Lib.hid hoo
  have HB:=Lib.hid hb
  have hsr:=hb.size
  have HW:=Lib.hid (below_tr B1.out (below_tr D3.out hb))
  clear hso hoo hb
  by_cases hlt:k<pn
  ·obtain ⟨b,o,rfl,hb,hc⟩:=HP.out.2 (by omega)
   obtain ⟨A1,m1,c1,hck,hI1⟩:=hc k hlt
   rw [←HW.out.cell (p:=⟨b,o+k,none⟩) hb] at hck
   have J1:=Lib.hid (hI1.below HW.out)
   have hpk:=HPO.out k hlt
   have hst:=stK_ok (pads:=pads) HF.out (k:=k) (fun j hj=>HPO.out j (by omega))
   have HSTP:=Lib.hid (step_any g d (tilesOf d fs) TA m tc EA DA (nodesOf d).toNat SA (2 * m) sc (stK d fs pads k) A1 m1 c1 (pads[k]?.getD []) wr (HEM.out.below (below_tr D3.out HB.out)) (by have:=nodesOf_bd (framesOk_iff HF.out).1;omega) HSO.out.ints J1.out (by have:=HMT.out;have:=(tiles_eq (framesOk_iff HF.out).1).1;omega) (by have h1:=J1.out.1;have h2:=(padsOk_len hpk).1;omega) (stPads_ok hst hpk) (cfg_of_frames HF.out))
   have HRO:Hid (runO d fs pads (k+1)=runO d fs pads k++[outF d (tilesOf d fs) (stK d fs pads k) (pads[k]?.getD [])]):=rfl
   have HSK:Hid (stK d fs pads (k+1)=nextF d (tilesOf d fs) (stK d fs pads k) (pads[k]?.getD [])):=rfl
   have hm36:m≤36:=by have:=HMT.out;have:=tiles_eq (framesOk_iff HF.out).1;omega
   clear hc hI1 hpk hst
   generalize pads[k]?.getD []=ps at *
   go_wp2_with fail
   refine HSTP.out.mono ?_
   rintro e w5 ⟨N1,nc,N2,mid,rfl,o1,o2,-,b5⟩
   have O1:=Lib.hid o1
   have O2:=Lib.hid o2
   have B5:=Lib.hid b5
   have hs5:=b5.size
   clear o1 o2 b5
   go_wp2_with (at_builtin;refine wpList_push2k rfl _ _ rfl w3.heap.size wr.heap.size A' k c' (runO d fs pads k) wr.heap.size N2 m m _ rfl (HOO.out.below B5.out) O2.out rfl (by omega) (Nat.le_refl _) (by omega) (by omega) (by omega) (below_tr HB.out B5.out) ?_;rintro g6 cap w6 o6 b6 hall - -)
   go_roundw
   case rel=>exact ⟨k+1,N1,nc,_,_,by omega,by go_num,rfl,rfl,by rw [HSK.out];exact (hall _ _ _ _ _ O1.out).more (by have:=HW.out.size;omega),by rw [HRO.out];exact o6,b6⟩
   case measure=>simp [intOf];omega
  ·have hkn:pn=k:=by omega
   subst hkn
   go_wp2_with fail
   go_ret
   exact ⟨_,_,rfl,HOO.out.widen (by have:=(below_tr B1.out D3.out).size;omega) (Nat.le_refl _),HW.out⟩
end Go.Proofs.YtignkfhdkcgkgaaGreat
