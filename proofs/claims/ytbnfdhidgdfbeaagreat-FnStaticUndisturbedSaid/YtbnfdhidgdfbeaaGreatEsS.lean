/- A step of the reference's emulator. EmuValues: the values of all nodes: the reference. EmuStep: a cycle: the reference. -/
import Derived.Test.YtbnfdhidgdfbeaaGreatDecoS
import Derived.Test.YtbnfdhidgdfbeaaGreatEsPure
import Derived.Test.YtbnfdhidgdfbeaaGreatValS2
namespace Go.Proofs.YtbnfdhidgdfbeaaGreat
set_option maxRecDepth 100000
open Go.RowKit

theorem add_bit3 {a b k:Nat} (ha:a<2 ^ k) (hb:b≤1) (hk:k≤3):wrap64 ((a:Int)+wrap64 ((b:Int) * 2 ^ k))=((a+b * 2 ^ k:Nat):Int):=by
 rw [wrap_bit hb (by omega)]
 have hp:2 ^ k≤2 ^ 3:=Nat.pow_le_pow_right (by omega) hk
 have h2:b * 2 ^ k≤1 * 2 ^ k:=Nat.mul_le_mul_right _ hb
 rw [←Int.natCast_add]
 exact IntWalk.wrap64_in _ (by omega)
set_option maxHeartbeats 4000000 in
theorem sl41Step_any (d:Dev) (ts:List Tile) (TA:Option Addr) (m tc:Nat) (SA:Option Addr) (sn sc:Nat) (st:List Int) (PA:Option Addr) (pn pc:Nat) (pads:List Int) (w:World)
  (htr:RdC w w.heap.size (celT ts) (.slice TA m tc)) (hst:Ints w SA sn st) (hpa:Ints w PA pn pads) (hsn:(sn:Int)=2 * (d.W * d.H)) (hpn:(pn:Int)=d.W * d.H) (hsp:StPads d ts st pads) (hc:CfgOk d ts) :
  Calls Tryz.prog 58 #[.agg #[.int .i64 d.W,.int .i64 d.H,.int .i64 d.T,.int .i64 d.R],.slice TA m tc,.slice SA sn sc,.slice PA pn pc] w fun e' w'=>∃A1 c1 A2 mid,e' = .returned (.tuple #[.slice A1 sn c1,.slice A2 m m])∧Own w.heap.size w' A1 sn c1 (nextF d ts st pads)∧Own w.heap.size w' A2 m m (outF d ts st pads)∧(w.heap.size≤mid∧mid≤w'.heap.size∧Lies A1 w.heap.size mid∧Lies A2 mid w'.heap.size)∧Below w.heap.size w w':=by
 have HB0:=Lib.hid (below_new (Below.refl w.heap.size w) (.cells #[.int .i64 d.W,.int .i64 d.H,.int .i64 d.T,.int .i64 d.R] 25))
 have HTR:=Lib.hid htr
 have HST:=Lib.hid hst
 have HPA:=Lib.hid hpa
 have HC:=Lib.hid hc
 have HSP:=Lib.hid hsp
 have HTL:=Lib.hid htr.tlen
 have hmt:m=tiles d:=by rw [←htr.tlen];exact hc.len
 have hWH:=(tiles_eq hc.dev)
 have hsm:sn=2 * m:=by omega
 have hm36:m≤36:=by omega
 have hm0:0<m:=by omega
 have hnb:=nodesOf_bd hc.dev
 obtain ⟨N,hN⟩:∃N:Nat,nodesOf d=(N:Int):=⟨(nodesOf d).toNat,by omega⟩
 have hNN:(nodesOf d).toNat=N:=by omega
 have HNE:=Lib.hid (show (N:Int)=nodesOf d from hN.symm)
 have HV:=Lib.hid (fun (w':World) (hb:Below w.heap.size w w')=>sl41Values_any d ts TA m tc SA sn sc st PA pn pc pads w' (htr.below hb) (hst.below hb) (hpa.below hb) hsn hpn hsp hc)
 rw [hNN] at HV
 obtain ⟨i0,hi,hz0,hz1,hz2⟩:=info_parts int_info
 have hmk:=fun W=>run_make_rowN (P:=Tryz.prog) 27 3 i0 _ Tryz.underlying27 hi hz0 .i64 .i64 m m (Nat.le_refl _) (by rw [hz2];omega) (by omega) W
 rw [hz1,Nat.mul_one,show (Value.int .i64 0).cells=#[Value.int .i64 0] from rfl,arr_made] at hmk
 have e1:d.W * d.H=(m:Int):=by omega
 have a0:IntKind.i64.wrap (m:Int)=(m:Int):=IntWalk.i64_in _ (by omega)
 have HMT:=Lib.hid hmt
 have HSM:=Lib.hid hsm
 have hsb:0<sn∧sn≤72:=by omega
 clear htr hst hpa hc hN hNN hnb hsp hi hz0 hz1 hz2 hWH hsn hpn hmt hsm
 go_enter Tryz.func58,Tryz.ntmps58
 go_wp2_with fail
 refine (HV.out _ HB0.out).mono ?_
 rintro e w1 ⟨VA,vc,rfl,o1,k1⟩
 have OV:=Lib.hid (o1.more (base':=w.heap.size) (by simp))
 have D1:=Lib.hid k1
 have B1:=Lib.hid (below_tr HB0.out k1)
 have hs1:=k1.size
 simp only [World.size_alloc] at hs1
 obtain ⟨q0,q1,q2,q3⟩:=keep4 D1.out (by simp) (box4 w d)
 clear o1 k1
 go_wp2_with (at_builtin;refine wpList_append_ints rfl _ _ rfl w1.heap.size (some ⟨w1.heap.size,0,none⟩) 0 0 [] rfl (Own.newAt (w:=w1) rfl (Nat.le_refl _)) SA sn sc st rfl (HST.out.below (below_new B1.out _)) (by omega) (by simp) (below_new (Below.refl _ _) _) ?_;rintro NA nc w2 o2 b2 g2;have hs2:=b2.size;simp only [Nat.zero_add,List.nil_append] at o2;have ON:=Lib.hid o2;have B2:=Lib.hid b2;have D2:=Lib.hid (below_tr D1.out b2);clear o2 b2 g2 q0 q1 q2 q3;obtain ⟨q0,q1,q2,q3⟩:=keep4 D2.out (by simp) (box4 w d))
 clear hmk
 obtain ⟨gn,cur,rfl,hgn,hgn2,-⟩:=ON.out.block (by omega)
 obtain ⟨gv,curv,rfl,hgv,hgv2,-⟩:=OV.out.block (by have:=HNE.out;have:=nodesOf_bd HC.out.dev;omega)
 have HV3:=Lib.hid (valsF_in3 HSP.out)
 have HVL:=Lib.hid (valsF_length d ts st pads)
 have HNF:Hid (nextF d ts st pads=nextTo d ts st (valsF d ts st pads) m):=by show _=_;rw [nextF,HTL.out]
 have HOF:Hid (outF d ts st pads=outTo d ts (valsF d ts st pads) m m):=by show _=_;rw [outF,HTL.out]
 have HNL:=Lib.hid (fun vs k=>nextTo_length d ts st vs k)
 generalize valsF d ts st pads=vs at *
 have HO0:Hid (Own w1.heap.size (w2.alloc (.cells (arr (List.replicate m 0)) 3)) (some ⟨w2.heap.size,0,none⟩) m m (outTo d ts vs m 0)):=Own.arr (heap_new w2 _) hs2 (by unfold maxLen;omega) (by simp [outTo])
 have HN0:Hid (Own w1.heap.size (w2.alloc (.cells (arr (List.replicate m 0)) 3)) (some ⟨gn,0,none⟩) sn nc (nextTo d ts st vs 0)):=ON.out.below (below_new (Below.refl _ _) _)
 go_loopw [13] (fun i wr=>∃k:Nat,k≤m∧i = .int .i64 k∧Own w1.heap.size wr (some ⟨gn,0,none⟩) sn nc (nextTo d ts st vs k)∧Own w1.heap.size wr (some ⟨w2.heap.size,0,none⟩) m m (outTo d ts vs m k)∧Below w1.heap.size w1 wr∧w2.heap.size<wr.heap.size) (fun i _=>m - (intOf i).toNat)
 case atStart=>exact ⟨0,Nat.zero_le _,rfl,HN0.out,HO0.out,below_new B2.out _,by simp⟩
 case round =>
  obtain ⟨k,hk,rfl,ho1,ho2,hbx,hsx⟩:=hrel
  have O1:=Lib.hid ho1
  have O2:=Lib.hid ho2
  have HBX:=Lib.hid hbx
  clear ho1 ho2 hbx
  by_cases hlt:k<m
  ·have hti:tileIn d (k:Int)=true:=tileIn_iff.2 ⟨HC.out.dev,by omega,by have:=HMT.out;have:=(tiles_eq HC.out.dev).1;omega⟩
   have hnb:=node_bd hti (k:=4) (by omega) (by have:=perT_bd HC.out.dev;omega)
   have hpt:=perT_bd HC.out.dev
   have hT:=(devOk_bd HC.out.dev)
   obtain ⟨bn,hbn⟩:∃bn:Nat,(k:Int) * perT d=(bn:Int):=⟨((k:Int) * perT d).toNat,by omega⟩
   have hbN:bn+4<N:=by have:=HNE.out;omega
   have hbl:bn≤805:=by omega
   have HTI:=Lib.hid hti
   have HBN:=Lib.hid hbn
   obtain ⟨b,o,S,m3,p,L,l,q,rfl,hb,c0,c1,c2,c3,r0,r1⟩:=HTR.out.tile (k:=k) (by rw [HTL.out];exact hlt)
   have R1:=Lib.hid r1
   obtain ⟨hcc,hff⟩:=bcell (below_tr B1.out HBX.out)
   obtain ⟨q0,q1,q2,q3⟩:=keep4 (below_tr D1.out HBX.out) (by simp) (box4 w d)
   have hs3:=HBX.out.size
   have hw0:w.heap.size<wr.heap.size:=by omega
   have hdk:decide ((k:Int)<(m:Int))=true:=by simp;omega
   have i0:(0:Int)≤(k:Int):=by omega
   have i1:(k:Int)<(m:Int):=by omega
   have HNX:Hid (nextTo d ts st vs (k+1)=nx1 d ts st vs k (nextTo d ts st vs k)):=rfl
   have HOX:Hid (outTo d ts vs m (k+1)=ou1 d ts vs k (outTo d ts vs m k)):=rfl
   have HTE:Hid (tileAt ts (k:Int)=ts[k]?.getD Tile.zero):=by show _=_;unfold tileAt;rw [Int.toNat_natCast]
   clear r0 r1 hnb hti hbn
   generalize hte:ts[k]?.getD Tile.zero=te at *
   have HTT:=Lib.hid hte
   clear hte
   go_wp2_with fail
   refine (l27Per_any d _ (by omega) (by omega)).mono ?_
   rintro e w5 ⟨rfl,b5⟩
   have HB5:=Lib.hid b5
   have hs5:=b5.size
   have a1:IntKind.i64.wrap (bn:Int)=(bn:Int):=IntWalk.i64_in _ (by omega)
   have HK5:=Lib.hid (below_tr (below_tr B1.out HBX.out) HB5.out)
   have HX5:=Lib.hid (below_tr HBX.out HB5.out)
   clear b5 hcc hff q0 q1 q2 q3
   obtain ⟨hcc,hff⟩:=bcell HK5.out
   obtain ⟨q0,q1,q2,q3⟩:=keep4 (below_tr D1.out HX5.out) (by simp) (box4 w d)
   have hbn:=HBN.out
   have hstk:=fun w'=>stileKind_any d (k:Int) w' (by omega)
   rw [tileKind_in HC.out.dev (by omega) (by have:=HMT.out;have:=(tiles_eq HC.out.dev).1;omega)] at hstk
   have HSTK:=Lib.hid hstk
   clear hstk
   go_wp2_with fail
   refine (HSTK.out _).mono ?_
   rintro e w6 ⟨rfl,b6⟩
   have HB6:=Lib.hid (below_tr HB5.out b6)
   have hs6:=b6.size
   have HK6:=Lib.hid (below_tr HK5.out b6)
   have P1:=Lib.hid (O1.out.below HB6.out)
   have P2:=Lib.hid (O2.out.below HB6.out)
   have OV6:=Lib.hid (OV.out.below (below_tr HBX.out HB6.out))
   have HBX6:=Lib.hid (below_tr HBX.out HB6.out)
   clear b6 hcc hff hbn q0 q1 q2 q3
   obtain ⟨q0,q1,q2,q3⟩:=keep4 (below_tr D1.out HBX6.out) (by simp) (box4 w d)
   have hk3:=kindOf_bd d (k:Int)
   have HNX1:Hid (nx1 d ts st vs k (nextTo d ts st vs k)=if kindOf d (k:Int)=1 then flopTo d ts vs k (nextTo d ts st vs k) 2 else if kindOf d (k:Int)=2 then (nextTo d ts st vs k).set (2 * k) ((ramNext (st[2 * k]?.getD 0).toNat (inTo d vs (k:Int) 4):Nat):Int) else nextTo d ts st vs k):=rfl
   have HOX1:Hid (ou1 d ts vs k (outTo d ts vs m k)=if kindOf d (k:Int)=0∧te.pad=2 then (outTo d ts vs m k).set k (mx (nv vs (bn:Int))) else outTo d ts vs m k):=by show _=_;unfold ou1;rw [HTT.out,HBN.out]
   generalize hkd:kindOf d (k:Int)=kd at *
   have HKD:=Lib.hid hkd
   clear hkd
   obtain ⟨hcc,hff⟩:=bcell HK6.out
   have hw6:wr.heap.size≤w6.heap.size:=by omega
   rcases hk3 with h|h|h
   ·subst h
    by_cases hp:te.pad=2
    ·have q1:(te.pad==2)=true:=by simpa using hp
     have HNS:Hid (nextTo d ts st vs (k+1)=nextTo d ts st vs k):=by show _=_;rw [HNX.out,HNX1.out,if_neg (by omega),if_neg (by omega)]
     have HOS:Hid (outTo d ts vs m (k+1)=(outTo d ts vs m k).set k (mx (nv vs (bn:Int)))):=by show _=_;rw [HOX.out,HOX1.out,if_pos ⟨rfl,hp⟩]
     obtain ⟨zv,yv⟩:=OV6.out.cellAt (k:=bn) (by omega)
     have HVN:Hid (vs[bn]?.getD 0=nv vs (bn:Int)):=by show _=_;unfold nv;rw [Int.toNat_natCast]
     rw [HVN.out] at zv
     obtain ⟨zo,yo⟩:=P2.out.cellAt hlt
     have k0:(0:Int)≤(bn:Int):=by omega
     have k1:(bn:Int)<(N:Int):=by omega
     clear hp
     go_wp2_with fail
     go_roundw
     case rel=>exact ⟨k+1,by omega,by go_num,by rw [HNS.out];exact P1.out.off (p:=⟨w2.heap.size,k,none⟩) (by rintro a h;injection h with h;subst h;show gn≠w2.heap.size;omega) _,by rw [HOS.out];exact P2.out.stored hlt (mx (nv vs (bn:Int))),HBX6.out.setCell (p:=⟨w2.heap.size,k,none⟩) hs2 _,by simp only [World.size_setCell];omega⟩
     case measure=>simp [intOf];omega
    ·have q1:(te.pad==2)=false:=by simp [hp]
     have HNS:Hid (nextTo d ts st vs (k+1)=nextTo d ts st vs k):=by show _=_;rw [HNX.out,HNX1.out,if_neg (by omega),if_neg (by omega)]
     have HOS:Hid (outTo d ts vs m (k+1)=outTo d ts vs m k):=by show _=_;rw [HOX.out,HOX1.out,if_neg (by rintro ⟨_,h2⟩;exact hp h2)]
     clear hp
     go_wp2_with fail
     go_roundw
     case rel=>exact ⟨k+1,by omega,by go_num,by rw [HNS.out];exact P1.out,by rw [HOS.out];exact P2.out,HBX6.out,by omega⟩
     case measure=>simp [intOf];omega
   ·subst h
    have HNS:Hid (nextTo d ts st vs (k+1)=flopTo d ts vs k (nextTo d ts st vs k) 2):=by show _=_;rw [HNX.out,HNX1.out,if_pos rfl]
    have HOS:Hid (outTo d ts vs m (k+1)=outTo d ts vs m k):=by show _=_;rw [HOX.out,HOX1.out,if_neg (by omega)]
    have HLU:=Lib.hid (fun (e:Nat) (he:e<2) (w':World) (hb:Below w.heap.size w w') (hv:Ints w' (some ⟨gv,0,none⟩) N vs)=>slut_any d ts (some ⟨b,o,none⟩) m tc N (some ⟨gv,0,none⟩) vc vs (k:Int) (e:Int) w' (HTR.out.below hb) hv HV3.out HNE.out HC.out HTI.out ⟨by omega,by omega⟩)
    have HFT:Hid (∀e:Nat,flopTo d ts vs k (nextTo d ts st vs k) (e+1)=if (leAt ts (k:Int) (e:Int)).flop=1 then (flopTo d ts vs k (nextTo d ts st vs k) e).set (2 * k+e) (mx (lutF d vs (k:Int) (leAt ts (k:Int) (e:Int)))) else flopTo d ts vs k (nextTo d ts st vs k) e):=fun e=>rfl
    have HLQ:Hid (∀e:Nat,e<2→leAt ts (k:Int) (e:Int)=te.les[e]?.getD Le.zero):=fun e _=>by unfold leAt;rw [HTE.out,Int.toNat_natCast]
    have hll:te.les.length=2:=by have h:=(le_fit (e:=0) HC.out HTI.out (by omega)).2.1;rw [HTE.out] at h;exact h
    have HLL:=Lib.hid hll
    have hl2:l=2:=by have h:=R1.out.elen;omega
    subst hl2
    have P0:Hid (Own w1.heap.size w6 (some ⟨gn,0,none⟩) sn nc (flopTo d ts vs k (nextTo d ts st vs k) 0)):=P1.out
    clear hll
    go_wp2_with fail
    clear hcc hff
    go_loopw [17] (fun i wx=>∃j:Nat,j≤2∧i = .int .i64 j∧Own w1.heap.size wx (some ⟨gn,0,none⟩) sn nc (flopTo d ts vs k (nextTo d ts st vs k) j)∧Own w1.heap.size wx (some ⟨w2.heap.size,0,none⟩) m m (outTo d ts vs m k)∧Below w1.heap.size w1 wx∧w2.heap.size<wx.heap.size) (fun i _=>2 - (intOf i).toNat)
    case atStart=>exact ⟨0,by omega,rfl,P0.out,P2.out,HBX6.out,by omega⟩
    case round =>
     obtain ⟨j,hj,rfl,hn1,hn2,hbw,hsy⟩:=hrel
     have N1:=Lib.hid hn1
     have N2:=Lib.hid hn2
     have BW:=Lib.hid hbw
     have hsx2:=hbw.size
     have hwx:w.heap.size<wr.heap.size:=by omega
     clear hn1 hn2 hbw q0 q1 q2 q3
     obtain ⟨q0,q1,q2,q3⟩:=keep4 (below_tr D1.out BW.out) (by simp) (box4 w d)
     by_cases hjl:j<2
     ·have hdj:decide ((j:Int)<2)=true:=by simp;omega
      obtain ⟨bl,ol,S4,m4,p4,rfl,hbl,d0,d1,d2,d3,r4⟩:=R1.out.le (k:=j) (by rw [HLL.out];exact hjl)
      have HFJ:=Lib.hid (HFT.out j)
      have HLJ:=Lib.hid (HLU.out j hjl)
      have hlq:=HLQ.out j hjl
      rw [←hlq] at d2
      obtain ⟨hcc,hff⟩:=bcell (below_tr B1.out BW.out)
      have j0:(0:Int)≤(j:Int):=by omega
      have j1:(j:Int)<2:=by omega
      have hblx:bl<wr.heap.size:=by omega
      clear d0 d1 d3 r4 hlq
      generalize leAt ts (k:Int) (j:Int)=le at *
      by_cases hf:le.flop=1
      ·have q1:(le.flop==1)=true:=by simpa using hf
       have HFS:Hid (flopTo d ts vs k (nextTo d ts st vs k) (j+1)=(flopTo d ts vs k (nextTo d ts st vs k) j).set (2 * k+j) (mx (lutF d vs (k:Int) le))):=by show _=_;rw [HFJ.out,if_pos hf]
       have n0:(0:Int)≤2 * (k:Int)+(j:Int):=by omega
       have n1:2 * (k:Int)+(j:Int)<(sn:Int):=by have:=HSM.out;omega
       have a5:IntKind.i64.wrap (2 * (k:Int))=2 * (k:Int):=IntWalk.i64_in _ (by omega)
       have a6:IntKind.i64.wrap (2 * (k:Int)+(j:Int))=2 * (k:Int)+(j:Int):=IntWalk.i64_in _ (by omega)
       clear hf
       go_wp2_with fail
       refine (HLJ.out _ (below_tr B1.out BW.out) (OV.out.below BW.out).ints).mono ?_
       rintro e8 w8 ⟨rfl,b8⟩
       have N18:=Lib.hid (N1.out.below b8)
       have N28:=Lib.hid (N2.out.below b8)
       have BW8:=Lib.hid (below_tr BW.out b8)
       have hs8:=b8.size
       obtain ⟨zo,yo⟩:=N18.out.cellAt (k:=2 * k+j) (by have:=HSM.out;omega)
       clear b8 hcc hff d2 q0 q1 q2 q3
       generalize lutF d vs (k:Int) le=lv at *
       go_wp2_with fail
       go_roundw
       case rel=>exact ⟨j+1,by omega,by go_num,by rw [HFS.out];exact N18.out.stored (by have:=HSM.out;omega) (mx lv),N28.out.off (p:=⟨gn,2 * k+j,none⟩) (by rintro a h;injection h with h;subst h;show w2.heap.size≠gn;omega) _,BW8.out.setCell (p:=⟨gn,2 * k+j,none⟩) hgn _,by simp only [World.size_setCell];omega⟩
       case measure=>simp [intOf];omega
      ·have q1:(le.flop==1)=false:=by simp [hf]
       have HFS:Hid (flopTo d ts vs k (nextTo d ts st vs k) (j+1)=flopTo d ts vs k (nextTo d ts st vs k) j):=by show _=_;rw [HFJ.out,if_neg hf]
       clear hf
       go_wp2_with fail
       go_roundw
       case rel=>exact ⟨j+1,by omega,by go_num,by rw [HFS.out];exact N1.out,N2.out,BW.out,hsy⟩
       case measure=>simp [intOf];omega
     ·have hj2:j=2:=by omega
      subst hj2
      have hdj:decide (((2:Nat):Int)<2)=false:=by decide
      clear hjl hj
      go_wp2_with fail
      go_roundw
      case rel=>exact ⟨k+1,by omega,by go_num,by rw [HNS.out];exact N1.out,by rw [HOS.out];exact N2.out,BW.out,by omega⟩
      case measure=>simp [intOf];omega
   ·subst h
    have HNS:Hid (nextTo d ts st vs (k+1)=(nextTo d ts st vs k).set (2 * k) ((ramNext (st[2 * k]?.getD 0).toNat (inTo d vs (k:Int) 4):Nat):Int)):=by show _=_;rw [HNX.out,HNX1.out,if_neg (by omega),if_pos rfl]
    have HOS:Hid (outTo d ts vs m (k+1)=outTo d ts vs m k):=by show _=_;rw [HOX.out,HOX1.out,if_neg (by omega)]
    have HIL:=Lib.hid (fun j=>inTo_lt (d:=d) HV3.out (k:Int) j)
    have HIS:Hid (∀j:Nat,inTo d vs (k:Int) (j+1)=inTo d vs (k:Int) j+(mx (nv vs ((k:Int) * perT d+(j:Int)))).toNat * 2 ^ j):=fun j=>rfl
    have HMX:=Lib.hid (fun i=>mx_in HV3.out i)
    go_wp2_with fail
    go_loopw [15,16] (fun v i wx=>∃j:Nat,j≤4∧i = .int .i64 j∧v = .int .i64 ((inTo d vs (k:Int) j:Nat):Int)∧w6=wx) (fun _ i _=>4 - (intOf i).toNat)
    case atStart=>exact ⟨0,by omega,rfl,rfl,rfl⟩
    case round =>
     obtain ⟨j,hj,rfl,rfl,rfl⟩:=hrel
     by_cases hjl:j<4
     ·have hdj:decide ((j:Int)<4)=true:=by simp;omega
      obtain ⟨zv,yv⟩:=OV6.out.cellAt (k:=bn+j) (by omega)
      have HVN:Hid (vs[bn+j]?.getD 0=nv vs ((k:Int) * perT d+(j:Int))):=by show _=_;rw [HBN.out];unfold nv;rw [show ((bn:Int)+(j:Int)).toNat=bn+j by omega]
      rw [HVN.out] at zv
      have k0:(0:Int)≤(bn:Int)+(j:Int):=by omega
      have k1:(bn:Int)+(j:Int)<(N:Int):=by omega
      have a4:IntKind.i64.wrap ((bn:Int)+(j:Int))=(bn:Int)+(j:Int):=IntWalk.i64_in _ (by omega)
      have j0:(0:Int)≤(j:Int):=by omega
      have j1:(j:Int)<4:=by omega
      have hil:=HIL.out j
      have his:=HIS.out j
      have hmx:=HMX.out ((k:Int) * perT d+(j:Int))
      have HISJ:=Lib.hid his
      have HILJ:=Lib.hid hil
      have HMXJ:=Lib.hid hmx
      clear his hil hmx
      generalize nv vs ((k:Int) * perT d+(j:Int))=x at *
      go_wp2_with fail
      go_roundw
      case rel =>
       refine ⟨j+1,by omega,by go_num,?_,trivial⟩
       obtain ⟨y,hy⟩:=Int.eq_ofNat_of_zero_le HMXJ.out.1
       have h:=HISJ.out
       rw [hy,Int.toNat_natCast] at h
       refine congrArg (Value.int .i64) ?_
       rw [h,←add_bit3 HILJ.out (show y≤1 by have:=HMXJ.out.2;omega) (by omega),←hy]
       rfl
      case measure=>simp [intOf];omega
     ·have hj4:j=4:=by omega
      subst hj4
      have hin:=HIL.out 4
      have hsr:=HSP.out.ram (k:Int) HTI.out HKD.out
      obtain ⟨bs,os,rfl,hbs,hcs⟩:=HST.out.2 (by omega)
      have hck:=hcs (2 * k) (by have:=HSM.out;omega)
      have hsv:st[2 * k]?.getD 0=nv st (2 * (k:Int)):=by unfold nv;rw [show (2 * (k:Int)).toNat=2 * k by omega]
      rw [hsv] at hck
      have HSV:=Lib.hid hsv
      obtain ⟨sv,hse⟩:=Int.eq_ofNat_of_zero_le hsr.1
      rw [hse] at hck hsr HSV
      have HNS2:Hid (nextTo d ts st vs (k+1)=(nextTo d ts st vs k).set (2 * k) ((ramNext sv (inTo d vs (k:Int) 4):Nat):Int)):=by show _=_;rw [HNS.out,HSV.out,Int.toNat_natCast]
      generalize inTo d vs (k:Int) 4=iv at *
      obtain ⟨zo,yo⟩:=P1.out.cellAt (k:=2 * k) (by have:=HSM.out;omega)
      have HSQ:=Lib.hid (fun w'=>sseqNext_ram sv iv (by omega) (by omega) w')
      have n0:(0:Int)≤2 * (k:Int):=by omega
      have n1:2 * (k:Int)<(sn:Int):=by have:=HSM.out;omega
      have a5:IntKind.i64.wrap (2 * (k:Int))=2 * (k:Int):=IntWalk.i64_in _ (by omega)
      have hdj:decide (((4:Nat):Int)<4)=false:=by decide
      have hbs6:bs<w6.heap.size:=by have:=HK6.out.size;omega
      clear hcs hse hsv HNS hjl hj
      go_wp2_with (go_at_call 137;refine (HSQ.out _).mono ?_;rintro e' w7 ⟨rfl,b7⟩;have P17:=Lib.hid (P1.out.below b7);have P27:=Lib.hid (P2.out.below b7);have HBX7:=Lib.hid (below_tr HBX6.out b7);have hs7:=b7.size;clear b7 zo yo;obtain ⟨zo,yo⟩:=P17.out.cellAt (k:=2 * k) (by have:=HSM.out;omega))
      go_roundw
      case rel=>exact ⟨k+1,by omega,by go_num,by rw [HNS2.out];exact P17.out.stored (by have:=HSM.out;omega) _,by rw [HOS.out];exact P27.out.off (p:=⟨gn,2 * k,none⟩) (by rintro a h;injection h with h;subst h;show w2.heap.size≠gn;omega) _,HBX7.out.setCell (p:=⟨gn,2 * k,none⟩) hgn _,by simp only [World.size_setCell];omega⟩
      case measure=>simp [intOf];omega
  ·have hkm:m=k:=by omega
   subst hkm
   have hdk:decide ((m:Int)<(m:Int))=false:=by simp
   obtain ⟨q0,q1,q2,q3⟩:=keep4 (below_tr D1.out HBX.out) (by simp) (box4 w d)
   have hw0:w.heap.size<wr.heap.size:=by have:=HBX.out.size;omega
   go_wp2_with fail
   go_ret2
   refine ⟨some ⟨gn,0,none⟩,nc,some ⟨w2.heap.size,0,none⟩,w2.heap.size,rfl,by rw [HNF.out];exact O1.out.more (by omega),by rw [HOF.out];exact O2.out.more (by omega),⟨by omega,by omega,?_,?_⟩,below_tr B1.out HBX.out⟩
   ·rintro a h;injection h with h;subst h;exact ⟨by show _≤gn;omega,hgn2⟩
   ·rintro a h;injection h with h;subst h;exact ⟨Nat.le_refl _,hsx⟩
end Go.Proofs.YtbnfdhidgdfbeaaGreat

namespace Go.Proofs.YtbnfdhidgdfbeaaGreat
set_option maxRecDepth 100000
open Go.RowKit

set_option maxHeartbeats 2000000 in
theorem sl41Valid_any (d:Dev) (A:Option Addr) (m c:Nat) (fs:List (List Int)) (SA:Option Addr) (sn sc:Nat) (st:List Int) (PA:Option Addr) (pn pc:Nat) (ps:List Int) (w:World)
  (hA:Rows2 w A m fs) (hS:Ints w SA sn st) (hP:Ints w PA pn ps) (hz:size2 fs≤1099511627776) (hs:sn≤16777216) (hp:pn≤16777216) :
  Calls Tryz.prog 72 #[.agg #[.int .i64 d.W,.int .i64 d.H,.int .i64 d.T,.int .i64 d.R],.slice A m c,.slice SA sn sc,.slice PA pn pc] w fun e w'=>e = .returned (.bool (allOk d fs st ps))∧Below w.heap.size w w':=by
 have HB0:=Lib.hid (below_new (Below.refl w.heap.size w) (.cells #[.int .i64 d.W,.int .i64 d.H,.int .i64 d.T,.int .i64 d.R] 25))
 have HI:=Lib.hid hA
 have HS:=Lib.hid hS
 have HP:=Lib.hid hP
 clear hA hS hP
 go_enter Tryz.func72,Tryz.ntmps72
 go_wp2_with fail
 refine (sframesOk_any d A m c fs _ (HI.out.below HB0.out) hz).mono ?_
 rintro e w1 ⟨rfl,b1⟩
 have hs1:=b1.size
 simp only [World.size_alloc] at hs1
 have D1:=Lib.hid b1
 obtain ⟨hcc,hff⟩:=bcell b1
 clear b1
 cases hf:framesOk d fs with
 | false =>
  have HF:Hid (allOk d fs st ps=false):=by show _=_;unfold allOk;rw [hf];rfl
  clear hf
  go_wp2_with fail
  go_ret
  exact ⟨ret_bool HF.out.symm,below_tr HB0.out D1.out⟩
 | true =>
  have HFO:=Lib.hid hf
  clear hf
  go_wp2_with fail
  refine (semuStateOk_any d SA sn sc st _ (HS.out.below (below_tr HB0.out D1.out)) hs).mono ?_
  rintro e w2 ⟨rfl,b2⟩
  have D2:=Lib.hid (below_tr D1.out b2)
  have hs2:=b2.size
  clear b2 hcc hff
  obtain ⟨hcc,hff⟩:=bcell D2.out
  cases hst:stOk d st with
  | false =>
   have HF:Hid (allOk d fs st ps=false):=by show _=_;unfold allOk;rw [hst,HFO.out];rfl
   clear hst
   go_wp2_with fail
   go_ret
   exact ⟨ret_bool HF.out.symm,below_tr HB0.out D2.out⟩
  | true =>
   have HF:Hid (allOk d fs st ps=padsOk d ps):=by show _=_;unfold allOk;rw [hst,HFO.out];rfl
   clear hst
   go_wp2_with fail
   refine (sl41Pads_any d PA pn pc ps _ (HP.out.below (below_tr HB0.out D2.out)) (by omega) (framesOk_iff HFO.out).1).mono ?_
   rintro e w3 ⟨rfl,b3⟩
   have D3:=Lib.hid (below_tr D2.out b3)
   clear b3 hcc hff
   go_wp2_with fail
   go_ret
   exact ⟨ret_bool HF.out.symm,below_tr HB0.out D3.out⟩
end Go.Proofs.YtbnfdhidgdfbeaaGreat

namespace Go.Proofs.YtbnfdhidgdfbeaaGreat
set_option maxRecDepth 100000
open Go.RowKit

theorem apart_low {a b:World} {hi:Nat} {A1 A2:Option Addr} (h:Below a.heap.size a b) (o:Apart b.heap.size hi A1 A2):Apart a.heap.size hi A1 A2:=o.more h.size (Nat.le_refl _)
set_option maxHeartbeats 4000000 in
theorem semuStep_any (d:Dev) (A:Option Addr) (m c:Nat) (fs:List (List Int)) (SA:Option Addr) (sn sc:Nat) (st:List Int) (PA:Option Addr) (pn pc:Nat) (ps:List Int) (w:World)
  (hA:Rows2 w A m fs) (hS:Ints w SA sn st) (hP:Ints w PA pn ps) (hz:size2 fs≤1099511627776) (hs:sn≤16777216) (hp:pn≤16777216) :
  Calls Tryz.prog 29 #[.agg #[.int .i64 d.W,.int .i64 d.H,.int .i64 d.T,.int .i64 d.R],.slice A m c,.slice SA sn sc,.slice PA pn pc] w fun e w'=>∃A1 n1 c1 A2 n2 c2,e = .returned (.tuple #[.slice A1 n1 c1,.slice A2 n2 c2])∧Own w.heap.size w' A1 n1 c1 (esN d fs st ps)∧Own w.heap.size w' A2 n2 c2 (esO d fs st ps)∧Apart w.heap.size w'.heap.size A1 A2∧Below w.heap.size w w':=by
 have HB0:=Lib.hid (below_new (Below.refl w.heap.size w) (.cells #[.int .i64 d.W,.int .i64 d.H,.int .i64 d.T,.int .i64 d.R] 25))
 have HI:=Lib.hid hA
 have HS:=Lib.hid hS
 have HP:=Lib.hid hP
 clear hA hS hP
 go_enter Tryz.func29,Tryz.ntmps29
 go_wp2_with fail
 refine (sl41Valid_any d A m c fs SA sn sc st PA pn pc ps _ (HI.out.below HB0.out) (HS.out.below HB0.out) (HP.out.below HB0.out) hz hs hp).mono ?_
 rintro e w1 ⟨rfl,b1⟩
 have hs1:=b1.size
 simp only [World.size_alloc] at hs1
 have D1:=Lib.hid b1
 obtain ⟨hcc,hff⟩:=bcell b1
 clear b1
 cases hok:allOk d fs st ps with
 | false =>
  have HF:=Lib.hid hok
  clear hok
  go_wp2_with fail
  go_ret2
  have hsz:=(below_tr HB0.out D1.out).size
  refine ⟨some ⟨w1.heap.size,0,none⟩,0,0,some ⟨w1.heap.size+1,0,none⟩,0,0,rfl,by rw [esN_bad HF.out];exact Own.made (xs:=[]) (heap_al _ (heap_new w1 (.cells #[] 3))) hsz (by decide) rfl rfl,by rw [esO_bad HF.out];exact Own.made (xs:=[]) (heap_newAt (by simp)) (by omega) (by decide) rfl rfl,⟨w1.heap.size+1,by omega,by simp,?_,?_⟩,below_new (below_new (below_tr HB0.out D1.out) _) _⟩
  ·rintro a h;injection h with h;subst h;exact ⟨hsz,Nat.lt_succ_self _⟩
  ·rintro a h;injection h with h;subst h;exact ⟨Nat.le_refl _,by simp⟩
 | true =>
  have HF:=Lib.hid hok
  obtain ⟨hf,hst,hpo⟩:framesOk d fs=true∧stOk d st=true∧padsOk d ps=true:=by simpa [allOk] using hok
  have HFO:=Lib.hid hf
  have HRF:Hid (readF d fs=tilesOf d fs):=by show _=_;rw [readF,if_pos hf]
  have HSP:=Lib.hid (stPads_ok (ts:=tilesOf d fs) hst hpo)
  have HPL:=Lib.hid (padsOk_len hpo).1
  have HSL:=Lib.hid (stOk_len hst)
  have hww:w.heap.size<w1.heap.size:=by omega
  have HQ:=Lib.hid (keep4 D1.out (by simp) (box4 w d))
  clear hok hf hst hpo hcc hff
  have HN:=Lib.hid (nodesOf_bd (framesOk_iff HFO.out).1)
  have hD:=Below.refl w1.heap.size w1
  have HV:Hid (∀(TA:Option Addr) (m3 c3:Nat) (w':World),Below w1.heap.size w1 w'→RdC w' w'.heap.size (celT (readF d fs)) (.slice TA m3 c3) →
    Calls Tryz.prog 58 #[.agg #[.int .i64 d.W,.int .i64 d.H,.int .i64 d.T,.int .i64 d.R],.slice TA m3 c3,.slice SA sn sc,.slice PA pn pc] w' fun e' w''=>∃A1 c1 A2 mid,e' = .returned (.tuple #[.slice A1 sn c1,.slice A2 m3 m3])∧Own w'.heap.size w'' A1 sn c1 (nextF d (tilesOf d fs) st ps)∧Own w'.heap.size w'' A2 m3 m3 (outF d (tilesOf d fs) st ps)∧(w'.heap.size≤mid∧mid≤w''.heap.size∧Lies A1 w'.heap.size mid∧Lies A2 mid w''.heap.size)∧Below w'.heap.size w' w''):=by
   intro TA m3 c3 w' hb hr
   exact sl41Step_any d (tilesOf d fs) TA m3 c3 SA sn sc st PA pn pc ps w' (by rw [←HRF.out];exact hr) (HS.out.below (below_tr HB0.out (below_tr D1.out hb))) (HP.out.below (below_tr HB0.out (below_tr D1.out hb))) (by have:=HS.out.1;have:=HSL.out;have:=(tiles_eq (framesOk_iff HFO.out).1).1;omega) (by have:=HP.out.1;have:=HPL.out;omega) HSP.out (cfg_of_frames HFO.out)
  go_wp2_with fail
  go_region_held3 (fun w'=>w'.cell? ⟨w.heap.size,0,none⟩=some (.int .i64 d.W)∧w'.cell? ⟨w.heap.size,1,none⟩=some (.int .i64 d.H)∧w'.cell? ⟨w.heap.size,2,none⟩=some (.int .i64 d.T)∧w'.cell? ⟨w.heap.size,3,none⟩=some (.int .i64 d.R))
   (first|with_reducible exact keep4 hD hww HQ.out|with_reducible exact keep4 hD.drew hww HQ.out)
   (first
    | (go_at_call 59;(with_reducible refine (sreadFrames_any d A m c fs _ (HI.out.below (below_tr HB0.out (below_tr D1.out (by first|with_reducible exact hD|with_reducible exact hD.drew)))) hz).mono ?_);rintro e w3 ⟨A3,m3,c3,rfl,o3,b3⟩;have R3:=Lib.hid o3.rd;have hD2:=below_tr (a:=w1) (by first|with_reducible exact hD|with_reducible exact hD.drew) b3;clear b3 o3;replace hD:=hD2)
    | (go_at_call 58;(with_reducible refine (HV.out _ _ _ _ (by first|with_reducible exact hD|with_reducible exact hD.drew) (by first|with_reducible exact R3.out|with_reducible exact rdC_dr R3.out)).mono ?_);rintro e w5 ⟨A5,c5,A6,mid,rfl,o5,o6,hap,b5⟩;have O5:=Lib.hid (own_low (a:=w1) (by first|with_reducible exact hD|with_reducible exact hD.drew) o5);have O6:=Lib.hid (own_low (a:=w1) (by first|with_reducible exact hD|with_reducible exact hD.drew) o6);have HAP:=Lib.hid (apart_low (a:=w1) (by first|with_reducible exact hD|with_reducible exact hD.drew) ⟨mid,hap⟩);have hD2:=below_tr (a:=w1) (by first|with_reducible exact hD|with_reducible exact hD.drew) b5;clear b5 o5 o6 hap;replace hD:=hD2))
  all_goals
   go_wp2_with fail
   go_ret2
   exact ⟨_,_,_,_,_,_,rfl,by rw [esN_good HF.out];exact O5.out.more (below_tr HB0.out D1.out).size,by rw [esO_good HF.out];exact O6.out.more (below_tr HB0.out D1.out).size,HAP.out.more (below_tr HB0.out D1.out).size (Nat.le_refl _),below_tr HB0.out (below_tr D1.out hD)⟩
end Go.Proofs.YtbnfdhidgdfbeaaGreat
