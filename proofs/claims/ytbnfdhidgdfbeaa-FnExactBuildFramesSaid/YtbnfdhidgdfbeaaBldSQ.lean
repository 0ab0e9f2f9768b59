/- BuildFrames of the reference: the frames of valid tiles, or none (printed by mkbldsq.py). -/
import Derived.Test.YtbnfdhidgdfbeaaBldP
import Derived.Test.YtbnfdhidgdfbeaaEncSQ
namespace Go.Proofs.Ytbnfdhidgdfbeaa
set_option maxRecDepth 100000
open Go.RowKit Cw
set_option maxHeartbeats 4000000 in
theorem sbuildFrames_any (d:Dev) (A:Option Addr) (n c:Nat) (ts:List Tile) (w:World) (hT:RdC w w.heap.size (celT ts) (.slice A n c)) (hbd:TsBd ts) (hn:n≤1099511627776) :
  Calls Try.prog 10 #[.agg #[.int .i64 d.W,.int .i64 d.H,.int .i64 d.T,.int .i64 d.R],.slice A n c] w fun e w'=>∃A' n' c',e = .returned (.tuple #[.slice A' n' c',.bool (bfOk d ts)])∧Own2 w.heap.size w'.heap.size w' A' n' c' (bfF d ts)∧Below w.heap.size w w':=by
 have HT:=Lib.hid hT
 have HTL:=Lib.hid hT.tlen
 have HBD:=Lib.hid hbd
 have HDO:=Lib.hid (fun w'=>sdeviceOk_any d w')
 have HB0:=Lib.hid (below_new (below_new (Below.refl w.heap.size w) (.cells #[.int .i64 d.W,.int .i64 d.H,.int .i64 d.T,.int .i64 d.R] 29)) (.cells #[] 44))
 clear hT hbd
 go_enter Try.func10,Try.ntmps10
 go_wp2_with fail
 refine (HDO.out _).mono ?_
 rintro e w1 ⟨rfl,b1⟩
 have hs1:=b1.size
 simp only [World.size_alloc] at hs1
 have HW1:=Lib.hid (below_tr HB0.out b1)
 obtain ⟨q0,q1,q2,q3⟩:=keep4 b1 (by simp;omega) (keep4 (below_new (Below.refl _ _) _) (by simp) (box4 w d))
 have HNIL:Hid (Own2 (w.heap.size+1) w1.heap.size w1 (some ⟨w.heap.size+1,0,none⟩) 0 0 []):=by
  have h:=(Own2.new0 (w:=w.alloc (.cells #[.int .i64 d.W,.int .i64 d.H,.int .i64 d.T,.int .i64 d.R] 29)) (g:=w.heap.size+1) (by simp)).below b1
  exact h.widen (Nat.le_refl _) b1.size
 have HE1:Hid (Below (w.heap.size+1) (w.alloc (.cells #[.int .i64 d.W,.int .i64 d.H,.int .i64 d.T,.int .i64 d.R] 29)) w1):=by
  have h:=below_tr (below_new (Below.refl (w.alloc (.cells #[.int .i64 d.W,.int .i64 d.H,.int .i64 d.T,.int .i64 d.R] 29)).heap.size (w.alloc (.cells #[.int .i64 d.W,.int .i64 d.H,.int .i64 d.T,.int .i64 d.R] 29))) (.cells #[] 44)) b1
  rwa [World.size_alloc] at h
 have hw0:w.heap.size<w1.heap.size:=by omega
 have HW1N:Hid (Own2 w.heap.size w1.heap.size w1 (some ⟨w.heap.size+1,0,none⟩) 0 0 []):=HNIL.out.widen (by omega) (Nat.le_refl _)
 clear b1
 cases hd:devOk d with
 | false =>
  have HNO:Hid (bfOk d ts=false):=by show _=_;unfold bfOk;rw [hd];rfl
  have HNF:Hid (bfF d ts=[]):=by show _=_;unfold bfF;rw [HNO.out];rfl
  clear hd
  go_wp2_with fail
  go_ret2
  exact ⟨_,0,_,by rw [HNO.out];rfl,by rw [HNF.out];exact HW1N.out,HW1.out⟩
 | true =>
  have HD:=Lib.hid hd
  have e1:d.W * d.H=(tiles d:Int):=(tiles_eq hd).1
  have hM:=(tiles_eq hd).2
  have a0:IntKind.i64.wrap (tiles d:Int)=(tiles d:Int):=IntWalk.i64_in _ (by omega)
  clear hd
  by_cases hl:ts.length=tiles d
  ·have hnm:n=tiles d:=by have:=HTL.out;omega
   have HL:=Lib.hid hl
   have HNM:=Lib.hid hnm
   have e1n:(tiles d:Int)=(n:Int):=by omega
   rw [e1n] at e1 a0
   have hn36:n≤36:=by omega
   have hne:((n:Int) != (n:Int))=false:=by simp
   clear hl hnm e1n
   go_wp2_with fail
   clear q0 q1 q2 q3
   go_loopw [6,7] (fun v i wr=>∃(k:Nat) (A':Option Addr) (c':Nat),k≤n∧i = .int .i64 k∧v = .slice A' k c'∧(∀j,j<k→tileOk d (ts[j]?.getD Tile.zero)=true)∧Own2 (w.heap.size+1) wr.heap.size wr A' k c' ((ts.take k).map (rowOf d))∧Below (w.heap.size+1) (w.alloc (.cells #[.int .i64 d.W,.int .i64 d.H,.int .i64 d.T,.int .i64 d.R] 29)) wr∧w.heap.size+1<wr.heap.size) (fun _ i _=>n - (intOf i).toNat)
   case atStart=>exact ⟨0,_,0,Nat.zero_le _,rfl,rfl,by intro j hj;omega,by simpa using HNIL.out,HE1.out,by omega⟩
   case round =>
    obtain ⟨k,A',c',hk,rfl,rfl,hall,hoo,hb,hsr⟩:=hrel
    have HALL:=Lib.hid hall
    clear hall
    have HOO:=Lib.hid hoo
    have HB:=Lib.hid hb
    have hbx:Below (w.alloc (.cells #[.int .i64 d.W,.int .i64 d.H,.int .i64 d.T,.int .i64 d.R] 29)).heap.size (w.alloc (.cells #[.int .i64 d.W,.int .i64 d.H,.int .i64 d.T,.int .i64 d.R] 29)) wr:=by rw [World.size_alloc];exact hb
    have HW:=Lib.hid (below_tr (below_new (Below.refl w.heap.size w) _) hbx)
    obtain ⟨q0,q1,q2,q3⟩:=keep4 hbx (by simp) (box4 w d)
    clear hoo hb hbx
    by_cases hlt:k<n
    ·have hdk:decide ((k:Int)<(n:Int))=true:=by simp;omega
     obtain ⟨b,o,S,m3,p,L,l,q,rfl,hb,c0,c1,c2,c3,r0,r1⟩:=HT.out.tile (k:=k) (by rw [HTL.out];exact hlt)
     rw [←HW.out.cell (p:=⟨b,o+k * 4,none⟩) hb] at c0
     rw [←HW.out.cell (p:=⟨b,o+k * 4+1,none⟩) hb] at c1
     rw [←HW.out.cell (p:=⟨b,o+k * 4+2,none⟩) hb] at c2
     rw [←HW.out.cell (p:=⟨b,o+k * 4+3,none⟩) hb] at c3
     have hbr:b<wr.heap.size:=by have:=HW.out.size;omega
     have hwr0:w.heap.size<wr.heap.size:=by omega
     have HSN:=Lib.hid (map_snoc (f:=rowOf d) (getD_some Tile.zero (by rw [HTL.out];exact hlt):ts[k]?=some (ts[k]?.getD Tile.zero)))
     have HTB:=Lib.hid (HBD.out k)
     have hm3:m3≤1099511627776:=by have h1:=(RdC.ints r0).1;have h2:=HTB.out.1;omega
     have HET:=Lib.hid (fun (w':World) (hb':Below wr.heap.size wr w')=>sencodeTile_any d (ts[k]?.getD Tile.zero) S m3 p L l q w' ((RdC.ints (r0.below HW.out)).below hb') ((r1.below HW.out).below hb') hm3 HTB.out.2)
     have HBAD:Hid (tileOk d (ts[k]?.getD Tile.zero)=false→bfOk d ts=false):=fun h=>bfOk_bad (by rw [HTL.out];exact hlt) h
     have HAS:Hid (tileOk d (ts[k]?.getD Tile.zero)=true→∀j,j<k+1→tileOk d (ts[j]?.getD Tile.zero)=true):=fun h=>all_succ HALL.out h
     have i0:(0:Int)≤(k:Int):=by omega
     have i1:(k:Int)<(n:Int):=by omega
     have hD:=(Below.refl wr.heap.size wr).drew
     clear r0 r1
     generalize ts[k]?.getD Tile.zero=t at *
     cases htk:tileOk d t with
     | false =>
      have HNO:=Lib.hid (HBAD.out htk)
      have HNF:Hid (bfF d ts=[]):=by show _=_;unfold bfF;rw [HNO.out];rfl
      rw [htk] at HET
      clear htk
      go_wp2_with fail
      go_region_held3 (fun w'=>Below wr.heap.size wr w'∧∀b o,b<wr.heap.size→w'.cell? ⟨b,o,none⟩=wr.cell? ⟨b,o,none⟩)
       (first|exact ⟨hD,(bcell hD).1⟩)
       ((go_at_call 43;(with_reducible refine (HET.out _ hD).mono ?_);rintro e5 w5 ⟨A5,n5,c5,rfl,o5,b5⟩;have O5:=Lib.hid o5;replace hD:=below_tr hD b5;clear b5 o5))
      have HD5:=Lib.hid hD
      have hs5:=hD.size
      clear hD c0 c1 c2 c3 q0 q1 q2 q3
      go_wp2_with fail
      go_ret2
      exact ⟨_,0,_,by rw [HNO.out];rfl,by rw [HNF.out];exact (Own2.new0 rfl).widen (by omega) (Nat.le_refl _),below_tr HW.out (below_tr HD5.out (below_new (Below.refl _ _) _))⟩
     | true =>
      have HAK:=Lib.hid (HAS.out htk)
      have HEQ:Hid (enT d t=encT d t):=if_pos htk
      rw [htk,HEQ.out] at HET
      clear htk
      go_wp2_with fail
      go_region_held3 (fun w'=>Below wr.heap.size wr w'∧∀b o,b<wr.heap.size→w'.cell? ⟨b,o,none⟩=wr.cell? ⟨b,o,none⟩)
       (first|exact ⟨hD,(bcell hD).1⟩)
       ((go_at_call 43;(with_reducible refine (HET.out _ hD).mono ?_);rintro e5 w5 ⟨A5,n5,c5,rfl,o5,b5⟩;have O5:=Lib.hid o5;replace hD:=below_tr hD b5;clear b5 o5))
      have HD5:=Lib.hid hD
      have hs5:=hD.size
      have hn5:n5=(encT d t).length:=O5.out.len.symm
      have hs50:w.heap.size+1<w5.heap.size:=by omega
      have hN5:n5≤11:=by rw [hn5,encT_length];have:=fwI_bd HD.out;omega
      have HN5:=Lib.hid hn5
      clear hD hn5 c0 c1 c2 c3 q0 q1 q2 q3
      go_wp2_with fail
      have HEB:=Lib.hid (fun j=>encT_bd d t j)
      have HRW:Hid (rowOf d t=(encT d t).map encI):=rfl
      have HLO:=Lib.hid (O5.out.ints)
      have R0:=Lib.hid (Own.new0 (w:=w5) (base:=w5.heap.size) (Nat.le_refl _))
      have RB:=Lib.hid (below_new (Below.refl w5.heap.size w5) (.cells #[] 3))
      generalize encT d t=ws at *
      go_loopw [10,11] (fun v i wx=>∃(j:Nat) (A2:Option Addr) (c2:Nat),j≤n5∧i = .int .i64 j∧v = .slice A2 j c2∧Own w5.heap.size wx A2 j c2 ((ws.take j).map encI)∧Below w5.heap.size w5 wx) (fun _ i _=>n5 - (intOf i).toNat)
      case atStart=>exact ⟨0,_,0,Nat.zero_le _,rfl,rfl,by simpa using R0.out,RB.out⟩
      case round =>
       obtain ⟨j,A2,c2,hj,rfl,rfl,ho,hb2⟩:=hrel
       have HO2:=Lib.hid ho
       have HB2:=Lib.hid hb2
       have hs2:=hb2.size
       by_cases hjl:j<n5
       ·have hdj:decide ((j:Int)<(n5:Int))=true:=by simp;omega
        obtain ⟨bw,ow,rfl,hbw,hcw⟩:=HLO.out.2 (by omega)
        have hck:=hcw j hjl
        rw [←hb2.cell (p:=⟨bw,ow+j,none⟩) hbw] at hck
        obtain ⟨x,hx,hx2⟩:=natPos (HEB.out j)
        have HSM:=Lib.hid (map_snoc (f:=encI) (getD_some 0 (by rw [←HN5.out];exact hjl):ws[j]?=some (ws[j]?.getD 0)))
        have j0:(0:Int)≤(j:Int):=by omega
        have j1:(j:Int)<(n5:Int):=by omega
        rw [hx] at hck HSM
        have HEI:Hid (encI (x:Int)=((encW x:Nat):Int)):=by show _=_;unfold encI;rw [Int.toNat_natCast]
        clear hcw hx ho hb2
        go_wp2_with fail
        refine (sencodeWord_any x _ (by omega)).mono ?_
        rintro e8 w8 ⟨rfl,b8⟩
        have B8:=Lib.hid b8
        have hs8:=b8.size
        clear b8
        go_wp2_with (at_builtin;refine wpList_push rfl _ _ rfl w5.heap.size A2 j c2 ((ws.take j).map encI) _ rfl (HO2.out.below B8.out) rfl (by omega) (by omega) (below_tr HB2.out B8.out) ?_;rintro g9 cap w9 o9 b9 - -)
        go_roundw
        case rel=>exact ⟨j+1,_,_,by omega,by go_num,rfl,by rw [HSM.out,HEI.out];exact o9,b9⟩
        case measure=>simp [intOf];omega
       ·have hjn:j=n5:=by omega
        subst hjn
        have hdj:decide ((j:Int)<(j:Int))=false:=by simp
        have HROW:Hid (Own w5.heap.size wr A2 j c2 (rowOf d t)):=by
         have h:=HO2.out
         rw [List.take_of_length_le (by rw [←HN5.out];exact Nat.le_refl _),←HRW.out] at h
         exact h
        have HOO5:=Lib.hid ((HOO.out.below HD5.out).below HB2.out)
        have HBB:=Lib.hid (below_tr2' (below_tr2' HB.out HD5.out (by omega)) HB2.out (by omega))
        clear ho hb2 hjl hj
        go_wp2_with (at_builtin;refine wpList_push2 rfl _ _ rfl (w.heap.size+1) _ A' k c' ((ts.take k).map (rowOf d)) w5.heap.size A2 j c2 _ rfl HOO5.out HROW.out rfl (by omega) (by omega) (by omega) (by omega) (by omega) HBB.out ?_;rintro g6 cap w6 o6 b6)
        go_roundw
        case rel=>exact ⟨k+1,_,_,by omega,by go_num,rfl,HAK.out,by rw [HSN.out];exact o6,b6,by obtain ⟨vs,k1,k2,-⟩:=o6;have q1:=ownsRow_lt k1 _ rfl;have q2:=k2 _ rfl;simp only at q1 q2;omega⟩
        case measure=>simp [intOf];omega
    ·have hkn:k=n:=by omega
     subst hkn
     have hdk:decide ((k:Int)<(k:Int))=false:=by simp
     have HOK:Hid (bfOk d ts=true):=bfOk_good HD.out HL.out (fun j hj=>HALL.out j (by have:=HTL.out;omega))
     have HFF:Hid (bfF d ts=(ts.take k).map (rowOf d)):=by
      show _=_
      unfold bfF
      rw [if_pos HOK.out,List.take_of_length_le (by rw [HTL.out];exact Nat.le_refl _)]
      rfl
     go_wp2_with fail
     go_ret2
     exact ⟨_,_,_,by rw [HOK.out];rfl,by rw [HFF.out];exact HOO.out.widen (by omega) (Nat.le_refl _),HW.out⟩
  ·have HNO:Hid (bfOk d ts=false):=by show _=_;unfold bfOk;rw [decide_eq_false hl];simp
   have HNF:Hid (bfF d ts=[]):=by show _=_;unfold bfF;rw [HNO.out];rfl
   have hne:((n:Int) != (tiles d:Int))=true:=by have:=HTL.out;simp;omega
   clear hl
   go_wp2_with fail
   go_ret2
   exact ⟨_,0,_,by rw [HNO.out];rfl,by rw [HNF.out];exact HW1N.out,HW1.out⟩
end Go.Proofs.Ytbnfdhidgdfbeaa
