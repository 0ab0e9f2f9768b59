/- BuildFrames of the reference for valid tiles: the frames, which are valid. EmuRun: the outputs of all cycles as lists; states stay valid. Codewords of one flipped bit are repaired; frames with such codewords are scrubbed back: plain lemmas. Frames and states stay valid: plain lemmas. -/
import Derived.Test.YtbnfdhidgdfbeaaGreatBrd
import Derived.Test.YtbnfdhidgdfbeaaGreatCopy
import Derived.Test.YtbnfdhidgdfbeaaGreatData
import Derived.Test.YtbnfdhidgdfbeaaGreatEncT
import Derived.Test.YtbnfdhidgdfbeaaGreatEsPure
import Derived.Test.YtbnfdhidgdfbeaaGreatFlip
import Derived.Test.YtbnfdhidgdfbeaaGreatValS2
namespace Go.Proofs.YtbnfdhidgdfbeaaGreat
set_option maxRecDepth 100000
open Go.RowKit Cw

def encI (x:Int):Int:=((encW x.toNat:Nat):Int)
def rowOf (d:Dev) (t:Tile):List Int:=(encT d t).map encI
def buildF (d:Dev) (ts:List Tile):List (List Int):=ts.map (rowOf d)
theorem encI_bd (x:Int):0≤encI x∧encI x≤4194303:=by
 have:=encW_lt x.toNat
 unfold encI
 omega
theorem rowOf_length (d:Dev) (t:Tile):(rowOf d t).length=(fwI d).toNat:=by simp [rowOf,encT_length]
theorem rowOf_ok {d:Dev} (hd:devOk d=true) (t:Tile):wordsOk (rowOf d t) (fwI d) 4194303=true:=by
 unfold wordsOk
 rw [Bool.and_eq_true,decide_eq_true_eq,rowOf_length]
 refine ⟨by have:=(fwI_bd hd).1;omega,allIn_good fun j hj=>inR_iff.2 ?_⟩
 rw [rowOf,List.getElem?_map,getD_some 0 (by rw [rowOf_length] at hj;rw [encT_length];exact hj)]
 exact encI_bd _
theorem buildF_ok {d:Dev} {ts:List Tile} (hd:devOk d=true) (hl:ts.length=tiles d):framesOk d (buildF d ts)=true:=by
 refine framesOk_good hd (by rw [buildF,List.length_map,hl]) fun j hj=>?_
 rw [buildF,List.length_map] at hj
 rw [buildF,List.getElem?_map,getD_some Tile.zero hj]
 exact rowOf_ok hd _
theorem map_snoc {α β:Type} {f:α→β} {xs:List α} {k:Nat} {x:α} (h:xs[k]?=some x):(xs.take (k+1)).map f=(xs.take k).map f++[f x]:=by
 rw [List.take_add_one,h]
 simp
theorem below_tr2' {B:Nat} {a b c:World} (h:Below B a b) (k:Below b.heap.size b c) (hB:B≤b.heap.size):Below B a c:=⟨k.os.trans h.os,k.tape.trans h.tape,k.output.trans h.output,Nat.le_trans h.size k.size,fun i hi=>(k.block i (Nat.lt_of_lt_of_le hi hB)).trans (h.block i hi)⟩
set_option maxHeartbeats 4000000 in
theorem sbuildFrames_yes (d:Dev) (A:Option Addr) (n c:Nat) (ts:List Tile) (w:World) (hT:RdC w w.heap.size (celT ts) (.slice A n c)) (hd:devOk d=true) (hl:ts.length=tiles d) (hok:∀j,j<n→tileOk d (ts[j]?.getD Tile.zero)=true) :
  Calls Tryz.prog 153 #[.agg #[.int .i64 d.W,.int .i64 d.H,.int .i64 d.T,.int .i64 d.R],.slice A n c] w fun e w'=>∃A' c',e = .returned (.tuple #[.slice A' n c',.bool true])∧Own2 w.heap.size w'.heap.size w' A' n c' (buildF d ts)∧Below w.heap.size w w':=by
 have HT:=Lib.hid hT
 have HTL:=Lib.hid hT.tlen
 have HD:=Lib.hid hd
 have HOK:=Lib.hid hok
 have e1:d.W * d.H=(n:Int):=by have h1:=hT.tlen;have h2:=(tiles_eq hd).1;omega
 have hn36:n≤36:=by have h1:=hT.tlen;have h2:=(tiles_eq hd).2;omega
 have a0:IntKind.i64.wrap (n:Int)=(n:Int):=IntWalk.i64_in _ (by omega)
 have hne:((n:Int) != (n:Int))=false:=by simp
 have HDO:=Lib.hid (fun w'=>by have h:=sdeviceOk_any d w';rw [hd] at h;exact h)
 have HB0:=Lib.hid (below_new (below_new (Below.refl w.heap.size w) (.cells #[.int .i64 d.W,.int .i64 d.H,.int .i64 d.T,.int .i64 d.R] 25)) (.cells #[] 27))
 clear hT hok hd
 go_enter Tryz.func153,Tryz.ntmps153
 go_wp2_with fail
 refine (HDO.out _).mono ?_
 rintro e w1 ⟨rfl,b1⟩
 have hs1:=b1.size
 simp only [World.size_alloc] at hs1
 have HW1:=Lib.hid (below_tr HB0.out b1)
 obtain ⟨q0,q1,q2,q3⟩:=keep4 b1 (by simp;omega) (keep4 (below_new (Below.refl _ _) _) (by simp) (box4 w d))
 have HNIL:Hid (Own2 (w.heap.size+1) w1.heap.size w1 (some ⟨w.heap.size+1,0,none⟩) 0 0 []):=by
  have h:=(Own2.new0 (w:=w.alloc (.cells #[.int .i64 d.W,.int .i64 d.H,.int .i64 d.T,.int .i64 d.R] 25)) (g:=w.heap.size+1) (by simp)).below b1
  exact h.widen (Nat.le_refl _) b1.size
 have HE1:Hid (Below (w.heap.size+1) (w.alloc (.cells #[.int .i64 d.W,.int .i64 d.H,.int .i64 d.T,.int .i64 d.R] 25)) w1):=by
  have h:=below_tr (below_new (Below.refl (w.alloc (.cells #[.int .i64 d.W,.int .i64 d.H,.int .i64 d.T,.int .i64 d.R] 25)).heap.size (w.alloc (.cells #[.int .i64 d.W,.int .i64 d.H,.int .i64 d.T,.int .i64 d.R] 25))) (.cells #[] 27)) b1
  rwa [World.size_alloc] at h
 have hw0:w.heap.size<w1.heap.size:=by omega
 clear b1
 go_wp2_with fail
 clear q0 q1 q2 q3
 go_loopw [6,7] (fun v i wr=>∃(k:Nat) (A':Option Addr) (c':Nat),k≤n∧i = .int .i64 k∧v = .slice A' k c'∧Own2 (w.heap.size+1) wr.heap.size wr A' k c' ((ts.take k).map (rowOf d))∧Below (w.heap.size+1) (w.alloc (.cells #[.int .i64 d.W,.int .i64 d.H,.int .i64 d.T,.int .i64 d.R] 25)) wr∧w.heap.size+1<wr.heap.size) (fun _ i _=>n - (intOf i).toNat)
 case atStart=>exact ⟨0,_,0,Nat.zero_le _,rfl,rfl,by simpa using HNIL.out,HE1.out,by omega⟩
 case round =>
  obtain ⟨k,A',c',hk,rfl,rfl,hoo,hb,hsr⟩:=hrel
  have HOO:=Lib.hid hoo
  have HB:=Lib.hid hb
  have hbx:Below (w.alloc (.cells #[.int .i64 d.W,.int .i64 d.H,.int .i64 d.T,.int .i64 d.R] 25)).heap.size (w.alloc (.cells #[.int .i64 d.W,.int .i64 d.H,.int .i64 d.T,.int .i64 d.R] 25)) wr:=by rw [World.size_alloc];exact hb
  have HW:=Lib.hid (below_tr (below_new (Below.refl w.heap.size w) _) hbx)
  obtain ⟨q0,q1,q2,q3⟩:=keep4 hbx (by simp) (box4 w d)
  clear hoo hb hbx
  by_cases hlt:k<n
  ·have hdk:decide ((k:Int)<(n:Int))=true:=by simp;omega
   obtain ⟨b,o,S,m3,p,L,l,q,rfl,hb,c0,c1,c2,c3,r0,r1⟩:=HT.out.tile (k:=k) (by rw [HTL.out];exact hlt)
   rw [←HW.out.cell (p:=⟨b,o+k * 4,none⟩) hb] at c0
   rw [←HW.out.cell (p:=⟨b,o+k * 4+1,none⟩) hb] at c1
   rw [←HW.out.cell (p:=⟨b,o+k * 4+2,none⟩) hb] at c2
   rw [←HW.out.cell (p:=⟨b,o+k * 4+3,none⟩) hb] at c3
   have hbr:b<wr.heap.size:=by have:=HW.out.size;omega
   have hwr0:w.heap.size<wr.heap.size:=by omega
   have HSN:=Lib.hid (map_snoc (f:=rowOf d) (getD_some Tile.zero (by rw [HTL.out];exact hlt):ts[k]?=some (ts[k]?.getD Tile.zero)))
   have HET:=Lib.hid (fun (w':World) (hb':Below wr.heap.size wr w')=>sencodeTile_yes d (ts[k]?.getD Tile.zero) S m3 p L l q w' ((RdC.ints (r0.below HW.out)).below hb') ((r1.below HW.out).below hb') (HOK.out k hlt))
   have i0:(0:Int)≤(k:Int):=by omega
   have i1:(k:Int)<(n:Int):=by omega
   have hD:=(Below.refl wr.heap.size wr).drew
   clear r0 r1
   generalize ts[k]?.getD Tile.zero=t at *
   go_wp2_with fail
   go_region_held3 (fun w'=>Below wr.heap.size wr w'∧∀b o,b<wr.heap.size→w'.cell? ⟨b,o,none⟩=wr.cell? ⟨b,o,none⟩)
    (first|exact ⟨hD,(bcell hD).1⟩)
    ((go_at_call 185;(with_reducible refine (HET.out _ hD).mono ?_);rintro e5 w5 ⟨A5,n5,c5,rfl,o5,b5⟩;have O5:=Lib.hid o5;replace hD:=below_tr hD b5;clear b5 o5))
   have HD5:=Lib.hid hD
   have hs5:=hD.size
   have hn5:n5=(encT d t).length:=O5.out.len.symm
   have hs50:w.heap.size+1<w5.heap.size:=by omega
   have hN5:n5≤11:=by rw [hn5,encT_length];have:=fwI_bd HD.out;omega
   have HN5:=Lib.hid hn5
   clear hD hn5 c0 c1 c2 c3 q0 q1 q2 q3
   go_wp2_with fail
   have HEB:=Lib.hid (fun j=>encT_bd d t j)
   have HRW:Hid (rowOf d t=(encT d t).map encI):=rfl
   have HLO:=Lib.hid (O5.out.ints)
   have R0:=Lib.hid (Own.new0 (w:=w5) (base:=w5.heap.size) (Nat.le_refl _))
   have RB:=Lib.hid (below_new (Below.refl w5.heap.size w5) (.cells #[] 3))
   generalize encT d t=ws at *
   go_loopw [10,11] (fun v i wx=>∃(j:Nat) (A2:Option Addr) (c2:Nat),j≤n5∧i = .int .i64 j∧v = .slice A2 j c2∧Own w5.heap.size wx A2 j c2 ((ws.take j).map encI)∧Below w5.heap.size w5 wx) (fun _ i _=>n5 - (intOf i).toNat)
   case atStart=>exact ⟨0,_,0,Nat.zero_le _,rfl,rfl,by simpa using R0.out,RB.out⟩
   case round =>
    obtain ⟨j,A2,c2,hj,rfl,rfl,ho,hb2⟩:=hrel
    have HO2:=Lib.hid ho
    have HB2:=Lib.hid hb2
    have hs2:=hb2.size
    by_cases hjl:j<n5
    ·have hdj:decide ((j:Int)<(n5:Int))=true:=by simp;omega
     obtain ⟨bw,ow,rfl,hbw,hcw⟩:=HLO.out.2 (by omega)
     have hck:=hcw j hjl
     rw [←hb2.cell (p:=⟨bw,ow+j,none⟩) hbw] at hck
     obtain ⟨x,hx,hx2⟩:=natPos (HEB.out j)
     have HSM:=Lib.hid (map_snoc (f:=encI) (getD_some 0 (by rw [←HN5.out];exact hjl):ws[j]?=some (ws[j]?.getD 0)))
     have j0:(0:Int)≤(j:Int):=by omega
     have j1:(j:Int)<(n5:Int):=by omega
     rw [hx] at hck HSM
     have HEI:Hid (encI (x:Int)=((encW x:Nat):Int)):=by show _=_;unfold encI;rw [Int.toNat_natCast]
     clear hcw hx ho hb2
     go_wp2_with fail
     refine (sencodeWord_any x _ (by omega)).mono ?_
     rintro e8 w8 ⟨rfl,b8⟩
     have B8:=Lib.hid b8
     have hs8:=b8.size
     clear b8
     go_wp2_with (at_builtin;refine wpList_push rfl _ _ rfl w5.heap.size A2 j c2 ((ws.take j).map encI) _ rfl (HO2.out.below B8.out) rfl (by omega) (by omega) (below_tr HB2.out B8.out) ?_;rintro g9 cap w9 o9 b9 - -)
     go_roundw
     case rel=>exact ⟨j+1,_,_,by omega,by go_num,rfl,by rw [HSM.out,HEI.out];exact o9,b9⟩
     case measure=>simp [intOf];omega
    ·have hjn:j=n5:=by omega
     subst hjn
     have hdj:decide ((j:Int)<(j:Int))=false:=by simp
     have HROW:Hid (Own w5.heap.size wr A2 j c2 (rowOf d t)):=by
      have h:=HO2.out
      rw [List.take_of_length_le (by rw [←HN5.out];exact Nat.le_refl _),←HRW.out] at h
      exact h
     have HOO5:=Lib.hid ((HOO.out.below HD5.out).below HB2.out)
     have HBB:=Lib.hid (below_tr2' (below_tr2' HB.out HD5.out (by omega)) HB2.out (by omega))
     clear ho hb2 hjl hj
     go_wp2_with (at_builtin;refine wpList_push2 rfl _ _ rfl (w.heap.size+1) _ A' k c' ((ts.take k).map (rowOf d)) w5.heap.size A2 j c2 _ rfl HOO5.out HROW.out rfl (by omega) (by omega) (by omega) (by omega) (by omega) HBB.out ?_;rintro g6 cap w6 o6 b6)
     go_roundw
     case rel=>exact ⟨k+1,_,_,by omega,by go_num,rfl,by rw [HSN.out];exact o6,b6,by obtain ⟨vs,k1,k2,-⟩:=o6;have q1:=ownsRow_lt k1 _ rfl;have q2:=k2 _ rfl;simp only at q1 q2;omega⟩
     case measure=>simp [intOf];omega
  ·have hkn:k=n:=by omega
   subst hkn
   have hdk:decide ((k:Int)<(k:Int))=false:=by simp
   have HFIN:Hid (Own2 (w.heap.size+1) wr.heap.size wr A' k c' (buildF d ts)):=by
    have h:=HOO.out
    rwa [List.take_of_length_le (by rw [HTL.out];exact Nat.le_refl _)] at h
   go_wp2_with fail
   go_ret2
   exact ⟨_,_,rfl,HFIN.out.widen (by omega) (Nat.le_refl _),HW.out⟩
end Go.Proofs.YtbnfdhidgdfbeaaGreat

namespace Go.Proofs.YtbnfdhidgdfbeaaGreat
set_option maxRecDepth 100000
open Go.RowKit

theorem stOk_mk {d:Dev} {st:List Int} (hd:devOk d=true) (hl:st.length=2 * tiles d) (h:∀i:Nat,0≤st[i]?.getD 0∧st[i]?.getD 0≤mostOf d i):stOk d st=true:=stOk_good hd hl fun j _=>inR_iff.2 (h j)
theorem lut01 (d:Dev) (vs:List Int) (t:Int) (e:Le):0≤mx (lutF d vs t e)∧mx (lutF d vs t e)≤1:=by
 have:=lutF_in d vs t e
 unfold mx;split <;> omega
theorem getD_set {l:List Int} {i j:Nat} {v:Int}:(l.set i v)[j]?.getD 0=if i=j∧i<l.length then v else l[j]?.getD 0:=by
 by_cases h:i=j
 ·subst h
  by_cases h2:i<l.length
  ·rw [if_pos ⟨rfl,h2⟩];simp [h2]
  ·rw [if_neg (fun h=>h2 h.2),List.set_eq_of_length_le (by omega)]
 ·rw [if_neg (fun h2=>h h2.1),List.getElem?_set_ne h]
def InSt (d:Dev) (l:List Int):Prop:=∀i:Nat,0≤l[i]?.getD 0∧l[i]?.getD 0≤mostOf d i
theorem inSt_set {d:Dev} {l:List Int} {i:Nat} {v:Int} (h:InSt d l) (hv:0≤v∧v≤mostOf d i):InSt d (l.set i v):=fun j=>by
 rw [getD_set]
 split
 ·rename_i hj;rw [←hj.1];exact hv
 ·exact h j
theorem inSt_flop {d:Dev} {ts:List Tile} {vs l:List Int} {k e:Nat} (h:InSt d l) (hk:kindOf d (k:Int)=1) (he:e<2):InSt d (flopSet d ts vs k l e):=by
 unfold flopSet
 split
 ·refine inSt_set h ?_
  have:=lut01 d vs (k:Int) (leAt ts (k:Int) (e:Int))
  unfold mostOf
  rw [show ((2 * k+e) / 2:Nat)=k by omega,if_pos hk]
  exact this
 ·exact h
theorem inSt_next {d:Dev} {ts:List Tile} {st vs:List Int} (hs:InSt d st) (h3:In3 vs) (k:Nat):InSt d (nextTo d ts st vs k):=by
 induction k with
 | zero=>exact hs
 | succ k ih =>
  rw [nextTo,nx1]
  split
  ·rename_i h1
   exact inSt_flop (e:=1) (inSt_flop (e:=0) ih h1 (by decide)) h1 (by decide)
  ·split
   ·rename_i h1 h2
    refine inSt_set ih ?_
    have hm:mostOf d (2 * k)=31:=by unfold mostOf;rw [show (2 * k / 2:Nat)=k by omega,if_neg (by omega),if_pos ⟨h2,by omega⟩]
    have h:=hs (2 * k)
    rw [hm] at h ⊢
    have hl:=inTo_lt (d:=d) h3 (k:Int) 4
    have:=ramNext_le (st[2 * k]?.getD 0).toNat (inTo d vs (k:Int) 4) (by omega) (by omega)
    omega
   ·exact ih
theorem stOk_next {d:Dev} {ts:List Tile} {st ps:List Int} (hd:devOk d=true) (hs:stOk d st=true) (hp:padsOk d ps=true):stOk d (nextF d ts st ps)=true:=by
 refine stOk_mk hd ?_ ?_
 ·rw [nextF,nextTo_length,stOk_len hs]
 ·exact inSt_next (stOk_any hs) (valsF_in3 (stPads_ok hs hp)) _
theorem stOk_start {d:Dev} {fs:List (List Int)} (hf:framesOk d fs=true):stOk d (startF d fs)=true:=by
 have hd:=(framesOk_iff hf).1
 have hr:readF d fs=tilesOf d fs:=by rw [readF,if_pos hf]
 have hl:(startF d fs).length=2 * tiles d:=by unfold startF;rw [startTo_length,hr,tilesOf_length,(frames_n hf).1]
 have hc:=cfg_of_frames hf
 refine stOk_good hd hl fun i hi=>inR_iff.2 ?_
 have hk:i / 2<(tilesOf d fs).length:=by rw [tilesOf_length,(frames_n hf).1];omega
 have ht:tileIn d ((i / 2:Nat):Int)=true:=tileIn_iff.2 ⟨hd,by omega,by rw [(tiles_eq hd).1];omega⟩
 have l0:=(le_fit (e:=0) hc ht (by omega)).1.init
 have l1:=(le_fit (e:=1) hc ht (by omega)).1.init
 have lr:=(le_fit (e:=0) hc ht (by omega)).2.2.2.ram
 have hg:=startTo_get (d:=d) (ts:=tilesOf d fs) (m:=(tilesOf d fs).length) hk (e:=i % 2) (by omega)
 rw [show 2 * (i / 2)+i % 2=i by omega] at hg
 unfold startF
 rw [hr,hg]
 unfold startOf mostOf
 have hm:i % 2=0∨i % 2=1:=by omega
 by_cases h1:kindOf d ((i / 2:Nat):Int)=1
 ·rw [if_pos h1,if_pos h1]
  rcases hm with h|h <;> rw [h]
  ·exact l0
  ·exact l1
 ·rw [if_neg h1,if_neg h1]
  by_cases h2:kindOf d ((i / 2:Nat):Int)=2
  ·rw [if_pos h2]
   rcases hm with h|h <;> rw [h]
   ·rw [if_pos ⟨h2,rfl⟩];exact lr
   ·rw [if_neg (by omega)];exact ⟨Int.le_refl _,Int.le_refl _⟩
  ·rw [if_neg h2,if_neg (by omega)]
   rcases hm with h|h <;> rw [h] <;> exact ⟨Int.le_refl _,Int.le_refl _⟩
end Go.Proofs.YtbnfdhidgdfbeaaGreat

namespace Go.Proofs.YtbnfdhidgdfbeaaGreat
set_option maxRecDepth 100000
open Go.RowKit Cw

theorem flip_one (x k:Nat) (hx:x<65536) (hk:k<22) :
  flipBit (encW x:Nat) (k:Nat)=((encW x ^^^ 2 ^ k:Nat):Int)∧decN (encW x)=(x,0)∧decN (encW x ^^^ 2 ^ k)=(x,1):=by
 have hc:=encW_lt x
 have hc':=xor_pow_lt hc (show k≤21 by omega)
 have hs:=syn_enc x hx
 have ho:=ones_enc x
 have hd:=data_enc x hx
 have hp:2 ^ k<2 ^ 22:=Nat.pow_lt_pow_right (by omega) (by omega)
 refine ⟨?_,?_,?_⟩
 ·unfold flipBit
  rw [range_true hc,show inR (k:Int) 0 21=true from inR_iff.2 ⟨by omega,by omega⟩]
  simp only [Bool.and_self,if_true,Int.toNat_natCast]
  rw [int_pow_cast]
  exact i64_xor_nat _ _ (by omega) (by omega)
 ·rw [decN,if_pos ho,if_pos hs,hd]
 ·rw [decN,ones_flip _ _ hk,if_neg (by omega)]
  rcases (by omega:k<21∨k=21) with h|rfl
  ·rw [syn_flip _ _ h,hs,Nat.zero_xor,if_neg (by omega),if_pos (by omega),Nat.add_sub_cancel,Nat.xor_assoc,Nat.xor_self,Nat.xor_zero,hd]
  ·rw [syn_flip21,hs,if_pos rfl]
   exact congrArg (fun t=>(t,1)) ((dataW_flip21 _).trans hd)
theorem rep_enc {x:Nat} (hx:x<65536):repW ((encW x:Nat):Int)=(((encW x:Nat):Int),0):=by
 have h:=(flip_one x 0 hx (by omega)).2.1
 unfold repW
 rw [decW_nat (encW_lt x),h]
 simp
theorem rep_flip {x k:Nat} (hx:x<65536) (hk:k<22):repW (flipBit ((encW x:Nat):Int) (k:Nat))=(((encW x:Nat):Int),1):=by
 obtain ⟨h1,_,h3⟩:=flip_one x k hx hk
 rw [h1]
 unfold repW
 rw [decW_nat (xor_pow_lt (encW_lt x) (by omega)),h3]
 simp
theorem flip_bd {x k:Nat} (hx:x<65536) (hk:k<22):0≤flipBit ((encW x:Nat):Int) (k:Nat)∧flipBit ((encW x:Nat):Int) (k:Nat)≤4194303:=by
 rw [(flip_one x k hx hk).1]
 have:=xor_pow_lt (encW_lt x) (show k≤21 by omega)
 omega

/-- Every number of a row is a codeword. -/
def CodeRow (f:List Int):Prop:=∀j,j<f.length→∃x:Nat,x<65536∧f[j]?.getD 0=((encW x:Nat):Int)
theorem codeRow_of (d:Dev) (t:Tile):CodeRow (rowOf d t):=by
 intro j hj
 rw [rowOf_length] at hj
 have hb:=encT_bd d t j
 refine ⟨((encT d t)[j]?.getD 0).toNat,by omega,?_⟩
 rw [rowOf,List.getElem?_map,getD_some 0 (by rw [encT_length];exact hj)]
 rfl
theorem codeRow_build {d:Dev} {ts:List Tile} (j:Nat):CodeRow ((buildF d ts)[j]?.getD []):=by
 rw [buildF,List.getElem?_map]
 cases ts[j]? with
 | none=>intro i hi;simp at hi
 | some t=>exact codeRow_of d t
theorem repC_of {c a s:Int} (h:repW c=(a,s)):repC c=a:=by unfold repC;rw [h]
theorem repC_enc {x:Nat} (hx:x<65536):repC ((encW x:Nat):Int)=((encW x:Nat):Int):=repC_of (rep_enc hx)
theorem repC_flip {x k:Nat} (hx:x<65536) (hk:k<22):repC (flipBit ((encW x:Nat):Int) (k:Nat))=((encW x:Nat):Int):=repC_of (rep_flip hx hk)
theorem CodeRow.get {f:List Int} (h:CodeRow f) {j:Nat} (hj:j<f.length):∃x:Nat,x<65536∧f[j]?=some ((encW x:Nat):Int):=by
 obtain ⟨x,hx,e⟩:=h j hj
 rw [List.getElem?_eq_getElem hj] at e ⊢
 exact ⟨x,hx,congrArg some e⟩
theorem scrubRow_code {f:List Int} (h:CodeRow f):scrubRow f=f:=by
 apply List.ext_getElem?
 intro i
 rw [scrubRow,List.getElem?_map]
 rcases Nat.lt_or_ge i f.length with hi|hi
 ·obtain ⟨x,hx,e⟩:=h.get hi
  rw [e,Option.map_some,repC_enc hx]
 ·rw [List.getElem?_eq_none hi];rfl
theorem cntTo_code {f:List Int} (h:CodeRow f) {s:Int} (hs:s≠0) (k:Nat) (hk:k≤f.length):cntTo s f k=0:=by
 induction k with
 | zero=>rfl
 | succ k ih =>
  obtain ⟨x,hx,e⟩:=h k (by omega)
  rw [cntTo,ih (by omega),e,rep_enc hx,if_neg (fun h=>hs h.symm)]
theorem scrubRow_flip {f:List Int} (h:CodeRow f) {k b:Nat} (hk:k<f.length) (hb:b<22):scrubRow (f.set k (flipBit (f[k]?.getD 0) (b:Nat)))=f:=by
 obtain ⟨x,hx,e⟩:=h.get hk
 have h2:=scrubRow_code h
 unfold scrubRow at h2 ⊢
 rw [List.map_set,h2,e,Option.getD_some,repC_flip hx hb]
 exact set_same e
theorem cntTo_flip {f:List Int} (h:CodeRow f) {k b:Nat} (hk:k<f.length) (hb:b<22) {s:Int} (hs:s≠0) (m:Nat) (hm:m≤f.length):cntTo s (f.set k (flipBit (f[k]?.getD 0) (b:Nat))) m=if k<m∧s=1 then 1 else 0:=by
 induction m with
 | zero=>rw [if_neg (by omega)];rfl
 | succ m ih =>
  rw [cntTo,ih (by omega),List.getElem?_set]
  by_cases he:k=m
  ·subst he
   obtain ⟨x,hx,e⟩:=h k hk
   rw [if_pos rfl,if_pos hk,Option.getD_some,e,rep_flip hx hb,if_neg (by omega)]
   by_cases h1:s=1
   ·subst h1;simp
   ·rw [if_neg (fun h=>h1 h.symm),if_neg (by omega)]
  ·obtain ⟨x,hx,e⟩:=h m (by omega)
   rw [if_neg he,e,rep_enc hx,if_neg (show ¬(0:Int)=s from fun h=>hs h.symm),Nat.add_zero]
   by_cases h1:k<m∧s=1
   ·rw [if_pos h1,if_pos (by omega)]
   ·rw [if_neg h1,if_neg (by omega)]
/-! ### several rows, each flipped at most once -/
/-- Row i with the bit b i of its word k i flipped, if c i. -/
def flG (fs:List (List Int)) (c:Nat→Bool) (kk bb:Nat→Nat) (i:Nat):List Int:=if c i=true then (fs[i]?.getD []).set (kk i) (flipBit ((fs[i]?.getD [])[kk i]?.getD 0) (bb i:Nat)) else fs[i]?.getD []
def flT (fs:List (List Int)) (c:Nat→Bool) (kk bb:Nat→Nat) (j:Nat):List (List Int):=(List.range fs.length).map fun i=>if i<j then flG fs c kk bb i else fs[i]?.getD []
def flN (c:Nat→Bool):Nat→Nat
 | 0=>0
 | k+1=>flN c k+if c k=true then 1 else 0
theorem flN_le (c:Nat→Bool) (k:Nat):flN c k≤k:=by
 induction k with
 | zero=>exact Nat.le_refl _
 | succ k ih=>rw [flN];split <;> omega
structure FlOk (d:Dev) (fs:List (List Int)) (kk bb:Nat→Nat):Prop where
 ok:framesOk d fs=true
 code:∀j:Nat,CodeRow (fs[j]?.getD [])
 word:∀j,kk j<(fwI d).toNat
 bit:∀j,bb j<22
section
variable {d:Dev} {fs:List (List Int)} {c:Nat→Bool} {kk bb:Nat→Nat}
theorem FlOk.len (h:FlOk d fs kk bb) {j:Nat} (hj:j<fs.length):(fs[j]?.getD []).length=(fwI d).toNat:=by
 have h1:=(framesOk_iff h.ok).2.2 j hj
 unfold wordsOk at h1
 rw [Bool.and_eq_true,decide_eq_true_eq] at h1
 omega
theorem flT_length (j:Nat):(flT fs c kk bb j).length=fs.length:=by simp [flT]
theorem flT_zero:flT fs c kk bb 0=fs:=mapP_zero (d:=[]) (g:=flG fs c kk bb) fs
theorem flT_get {j i:Nat} (hi:i<fs.length):(flT fs c kk bb j)[i]?.getD []=if i<j then flG fs c kk bb i else fs[i]?.getD []:=by rw [flT,mapP_get hi];rfl
theorem flT_yes {j:Nat} (hj:j<fs.length) (hc:c j=true):(flT fs c kk bb j).set j ((fs[j]?.getD []).set (kk j) (flipBit ((fs[j]?.getD [])[kk j]?.getD 0) (bb j:Nat)))=flT fs c kk bb (j+1):=by
 have h:=mapP_set (d:=[]) (g:=flG fs c kk bb) hj
 have e:flG fs c kk bb j=(fs[j]?.getD []).set (kk j) (flipBit ((fs[j]?.getD [])[kk j]?.getD 0) (bb j:Nat)):=by rw [flG,if_pos hc]
 rw [e] at h
 exact h
theorem flT_no {j:Nat} (hj:j<fs.length) (hc:c j=false):flT fs c kk bb j=flT fs c kk bb (j+1):=by
 have h:=mapP_set (d:=[]) (g:=flG fs c kk bb) hj
 have e:flG fs c kk bb j=fs[j]?.getD []:=by rw [flG,hc];rfl
 rw [e] at h
 refine Eq.trans ?_ h
 refine (set_same ?_).symm
 unfold flT
 rw [mapP_get hj,if_neg (Nat.lt_irrefl j)]
theorem flG_words (h:FlOk d fs kk bb) {j:Nat} (hj:j<fs.length):wordsOk (flG fs c kk bb j) (fwI d) 4194303=true:=by
 have h1:=(framesOk_iff h.ok).2.2 j hj
 unfold flG
 split
 ·have hl:=h.len hj
  unfold wordsOk at h1 ⊢
  rw [Bool.and_eq_true,decide_eq_true_eq] at h1 ⊢
  refine ⟨by rw [List.length_set];exact h1.1,allIn_good fun i hi=>inR_iff.2 ?_⟩
  rw [List.length_set] at hi
  rw [List.getElem?_set]
  split
  ·rename_i he
   obtain ⟨x,hx,e⟩:=h.code j (kk j) (by have:=h.word j;omega)
   rw [if_pos (by have:=h.word j;omega),Option.getD_some,e]
   exact flip_bd hx (h.bit j)
  ·exact allIn_get h1.2 hi
 ·exact h1
theorem flT_ok (h:FlOk d fs kk bb) (j:Nat):framesOk d (flT fs c kk bb j)=true:=by
 obtain ⟨h1,h2,h3⟩:=framesOk_iff h.ok
 refine framesOk_good h1 (by rw [flT_length];exact h2) fun i hi=>?_
 rw [flT_length] at hi
 rw [flT_get hi]
 split
 ·exact flG_words h hi
 ·exact h3 i hi
theorem flT_step (h:FlOk d fs kk bb) {j:Nat} (hj:j<fs.length) (hc:c j=true):flipOk d (flT fs c kk bb j) j (kk j:Nat) (bb j:Nat)=true∧flipFrame d (flT fs c kk bb j) j (kk j:Nat) (bb j:Nat)=flT fs c kk bb (j+1):=by
 have hw:=h.word j
 have hb:=h.bit j
 have hok:flipOk d (flT fs c kk bb j) j (kk j:Nat) (bb j:Nat)=true:=by
  unfold flipOk
  rw [flT_ok h,inR_iff.2 (by rw [flT_length];omega),inR_iff.2 (by omega),inR_iff.2 (by omega)]
  rfl
 refine ⟨hok,?_⟩
 unfold flipFrame
 rw [if_pos hok,Int.toNat_natCast,Int.toNat_natCast,flT_get hj,if_neg (Nat.lt_irrefl j)]
 exact flT_yes hj hc
theorem flT_scrub (h:FlOk d fs kk bb) (j:Nat):scrubF d (flT fs c kk bb j)=fs:=by
 unfold scrubF
 rw [if_pos (flT_ok h j)]
 apply List.ext_getElem?
 intro i
 rw [List.getElem?_map]
 rcases Nat.lt_or_ge i fs.length with hi|hi
 ·rw [flT,mapP_get hi,List.getElem?_eq_getElem hi]
  have hg:fs[i]?.getD []=fs[i]:=by rw [List.getElem?_eq_getElem hi];rfl
  simp only [Option.map_some,Option.some.injEq]
  rw [←hg]
  split
  ·unfold flG
   split
   ·exact scrubRow_flip (h.code i) (by rw [h.len hi];exact h.word i) (h.bit i)
   ·exact scrubRow_code (h.code i)
  ·exact scrubRow_code (h.code i)
 ·rw [List.getElem?_eq_none (by rw [flT_length];exact hi),List.getElem?_eq_none hi];rfl
theorem flT_cnt (h:FlOk d fs kk bb) {s:Int} (hs:s≠0) (k:Nat) (hk:k≤fs.length):cnt2To s (flT fs c kk bb fs.length) k=if s=1 then flN c k else 0:=by
 induction k with
 | zero=>simp [cnt2To,flN]
 | succ k ih =>
  rw [cnt2To,ih (by omega),flT_get (show k<fs.length by omega),if_pos (show k<fs.length by omega),flN]
  have hl:=h.len (j:=k) (by omega)
  have hw:=h.word k
  rcases Bool.eq_false_or_eq_true (c k) with hc|hc
  ·have e:flG fs c kk bb k=(fs[k]?.getD []).set (kk k) (flipBit ((fs[k]?.getD [])[kk k]?.getD 0) (bb k:Nat)):=by unfold flG;rw [if_pos hc]
   rw [e,if_pos hc,List.length_set,cntTo_flip (h.code k) (by omega) (h.bit k) hs _ (Nat.le_refl _)]
   by_cases h1:s=1
   ·rw [if_pos h1,if_pos h1,if_pos ⟨by omega,h1⟩]
   ·rw [if_neg h1,if_neg h1,if_neg (by omega)]
  ·have e:flG fs c kk bb k=fs[k]?.getD []:=by unfold flG;rw [hc];rfl
   rw [e,cntTo_code (h.code k) hs _ (Nat.le_refl _),if_neg (show ¬c k=true by rw [hc];simp)]
   rfl
end
end Go.Proofs.YtbnfdhidgdfbeaaGreat

namespace Go.Proofs.YtbnfdhidgdfbeaaGreat
set_option maxRecDepth 100000
open Go.RowKit Cw

def encV (x:Int):Int:=((encW x.toNat:Nat):Int)
theorem encV_bd (x:Int):0≤encV x∧encV x≤4194303:=by
 have:=encW_lt x.toNat
 unfold encV
 omega
theorem flipBit_bd {c b:Int} (h:0≤c∧c≤4194303):0≤flipBit c b∧flipBit c b≤4194303:=by
 unfold flipBit
 split
 ·rename_i hb
  rw [Bool.and_eq_true,inR_iff,inR_iff] at hb
  obtain ⟨cn,rfl⟩:∃n:Nat,c=n:=⟨c.toNat,by omega⟩
  obtain ⟨bn,rfl⟩:∃n:Nat,b=n:=⟨b.toNat,by omega⟩
  have hp:2 ^ bn<2 ^ 22:=Nat.pow_lt_pow_right (by omega) (by omega)
  have hx:=xor_pow_lt (show cn<4194304 by omega) (show bn≤21 by omega)
  rw [Int.toNat_natCast,int_pow_cast,i64_xor_nat _ _ (by omega) (by omega)]
  omega
 ·exact h
theorem repC_bd {c:Int} (h:0≤c∧c≤4194303):0≤repC c∧repC c≤4194303:=by
 unfold repC repW
 split
 ·exact encV_bd _
 ·exact h
theorem wordsOk_iff {ws:List Int} {n m:Int}:wordsOk ws n m=true↔(ws.length:Int)=n∧∀j,j<ws.length→0≤ws[j]?.getD 0∧ws[j]?.getD 0≤m:=by
 unfold wordsOk
 rw [Bool.and_eq_true,decide_eq_true_eq]
 exact ⟨fun h=>⟨h.1,fun j hj=>allIn_get h.2 hj⟩,fun h=>⟨h.1,allIn_good fun j hj=>inR_iff.2 (h.2 j hj)⟩⟩
theorem wordsOk_set {ws:List Int} {n m:Int} (h:wordsOk ws n m=true) {k:Nat} {v:Int} (hv:k<ws.length→0≤v∧v≤m):wordsOk (ws.set k v) n m=true:=by
 rw [wordsOk_iff] at h ⊢
 refine ⟨by rw [List.length_set];exact h.1,fun j hj=>?_⟩
 rw [List.length_set] at hj
 rw [getD_set]
 split
 ·rename_i e;exact hv e.2
 ·exact h.2 j hj
theorem wordsOk_map {ws:List Int} {n m:Int} {f:Int→Int} (h:wordsOk ws n m=true) (hf:∀x,0≤x∧x≤m→0≤f x∧f x≤m):wordsOk (ws.map f) n m=true:=by
 rw [wordsOk_iff] at h ⊢
 refine ⟨by rw [List.length_map];exact h.1,fun j hj=>?_⟩
 rw [List.length_map] at hj
 rw [List.getElem?_map,getD_some 0 hj]
 exact hf _ (h.2 j hj)
/-- Every codeword made of 16 bits. -/
theorem wordsOk_enc {ws:List Int} {n m:Int} (h:wordsOk ws n m=true):wordsOk (ws.map encV) n 4194303=true:=by
 rw [wordsOk_iff] at h ⊢
 refine ⟨by rw [List.length_map];exact h.1,fun j hj=>?_⟩
 rw [List.length_map] at hj
 rw [List.getElem?_map,getD_some 0 hj]
 exact encV_bd _
theorem codeRow_enc {ws:List Int} {n:Int} (h:wordsOk ws n 65535=true):CodeRow (ws.map encV):=by
 rw [wordsOk_iff] at h
 intro j hj
 rw [List.length_map] at hj
 have:=h.2 j hj
 exact ⟨(ws[j]?.getD 0).toNat,by omega,by rw [List.getElem?_map,getD_some 0 hj];rfl⟩
theorem getD_setR {l:List (List Int)} {i j:Nat} {v:List Int}:(l.set i v)[j]?.getD []=if i=j∧i<l.length then v else l[j]?.getD []:=by
 by_cases h:i=j
 ·subst h
  by_cases h2:i<l.length
  ·rw [if_pos ⟨rfl,h2⟩];simp [h2]
  ·rw [if_neg (fun h=>h2 h.2),List.set_eq_of_length_le (by omega)]
 ·rw [if_neg (fun h2=>h h2.1),List.getElem?_set_ne h]
theorem framesOk_set {d:Dev} {fs:List (List Int)} (h:framesOk d fs=true) {t:Nat} {f:List Int} (hf:t<fs.length→wordsOk f (fwI d) 4194303=true):framesOk d (fs.set t f)=true:=by
 obtain ⟨h1,h2,h3⟩:=framesOk_iff h
 refine framesOk_good h1 (by rw [List.length_set];exact h2) fun j hj=>?_
 rw [List.length_set] at hj
 rw [getD_setR]
 split
 ·rename_i e;exact hf e.2
 ·exact h3 j hj
theorem framesOk_flip {d:Dev} {fs:List (List Int)} (h:framesOk d fs=true) (t k b:Int):framesOk d (flipFrame d fs t k b)=true:=by
 unfold flipFrame
 split
 ·refine framesOk_set h fun ht=>?_
  have h3:=(framesOk_iff h).2.2 t.toNat ht
  exact wordsOk_set h3 fun hk=>flipBit_bd ((wordsOk_iff.1 h3).2 _ hk)
 ·exact h
theorem framesOk_scrub {d:Dev} {fs:List (List Int)} (h:framesOk d fs=true):framesOk d (scrubF d fs)=true:=by
 obtain ⟨h1,h2,h3⟩:=framesOk_iff h
 rw [scrubF,if_pos h]
 refine framesOk_good h1 (by rw [List.length_map];exact h2) fun j hj=>?_
 rw [List.length_map] at hj
 rw [List.getElem?_map,getD_some [] hj]
 exact wordsOk_map (h3 j hj) fun x hx=>repC_bd hx
end Go.Proofs.YtbnfdhidgdfbeaaGreat
