/- BuildFrames of the reference for valid tiles: the frames, which are valid. Words become codewords, by the program. BuildFrames of the program: the frames of valid tiles, or none. -/
import Derived.Test.YtbnfdhidgdfbeaaCopy
import Derived.Test.YtbnfdhidgdfbeaaCw2
import Derived.Test.YtbnfdhidgdfbeaaEncR
import Derived.Test.YtbnfdhidgdfbeaaEncT
import Derived.Test.YtbnfdhidgdfbeaaStart
namespace Go.Proofs.Ytbnfdhidgdfbeaa
set_option maxRecDepth 100000
open Go.RowKit Cw

def encI (x:Int):Int:=((encW x.toNat:Nat):Int)
def rowOf (d:Dev) (t:Tile):List Int:=(encT d t).map encI
def buildF (d:Dev) (ts:List Tile):List (List Int):=ts.map (rowOf d)
theorem encI_bd (x:Int):0≤encI x∧encI x≤4194303:=by
 have:=encW_lt x.toNat
 unfold encI
 omega
theorem rowOf_length (d:Dev) (t:Tile):(rowOf d t).length=(fwI d).toNat:=by simp [rowOf,encT_length]
theorem rowOf_ok {d:Dev} (hd:devOk d=true) (t:Tile):wordsOk (rowOf d t) (fwI d) 4194303=true:=by
 unfold wordsOk
 rw [Bool.and_eq_true,decide_eq_true_eq,rowOf_length]
 refine ⟨by have:=(fwI_bd hd).1;omega,allIn_good fun j hj=>inR_iff.2 ?_⟩
 rw [rowOf,List.getElem?_map,getD_some 0 (by rw [rowOf_length] at hj;rw [encT_length];exact hj)]
 exact encI_bd _
theorem buildF_ok {d:Dev} {ts:List Tile} (hd:devOk d=true) (hl:ts.length=tiles d):framesOk d (buildF d ts)=true:=by
 refine framesOk_good hd (by rw [buildF,List.length_map,hl]) fun j hj=>?_
 rw [buildF,List.length_map] at hj
 rw [buildF,List.getElem?_map,getD_some Tile.zero hj]
 exact rowOf_ok hd _
theorem map_snoc {α β:Type} {f:α→β} {xs:List α} {k:Nat} {x:α} (h:xs[k]?=some x):(xs.take (k+1)).map f=(xs.take k).map f++[f x]:=by
 rw [List.take_add_one,h]
 simp
theorem below_tr2' {B:Nat} {a b c:World} (h:Below B a b) (k:Below b.heap.size b c) (hB:B≤b.heap.size):Below B a c:=⟨k.os.trans h.os,k.tape.trans h.tape,k.output.trans h.output,Nat.le_trans h.size k.size,fun i hi=>(k.block i (Nat.lt_of_lt_of_le hi hB)).trans (h.block i hi)⟩
end Go.Proofs.Ytbnfdhidgdfbeaa

namespace Go.Proofs.Ytbnfdhidgdfbeaa
set_option maxRecDepth 100000
open Go.RowKit Cw

def encL (ws:List Int):List Int:=ws.map fun x=>((encW x.toNat:Nat):Int)
theorem encL_take {ws:List Int} {k:Nat} (h:k<ws.length):encL (ws.take (k+1))=encL (ws.take k)++[((Cw.encW (ws[k]?.getD 0).toNat:Nat):Int)]:=by
 unfold encL
 rw [List.take_add_one,List.getElem?_eq_getElem h,List.map_append]
 rfl
set_option maxHeartbeats 1000000 in
theorem encodeWords_any (A:Option Addr) (n c:Nat) (ws:List Int) (w:World) (h:Ints w A n ws) (hin:∀j,j<ws.length→0≤ws[j]?.getD 0∧ws[j]?.getD 0≤65535) (hn:n≤16777216) :
  Calls Try.prog 48 #[.slice A n c] w fun e w'=>∃A' c',e = .returned (.slice A' n c')∧Own w.heap.size w' A' n c' (encL ws)∧Below w.heap.size w w':=by
 obtain ⟨hx,hA⟩:=h
 have HX:=Lib.hid hx
 have HIN:=Lib.hid hin
 clear hx hin
 go_enter Try.func48,Try.ntmps48
 go_wp2_with fail
 go_loopw [3,8] (fun v i wr=>∃(k:Nat) (A':Option Addr) (c':Nat),k≤n∧i = .int .i64 k∧v = .slice A' k c'∧Own w.heap.size wr A' k c' (encL (ws.take k))∧Below w.heap.size w wr) (fun _ i _=>n - (intOf i).toNat)
 case atStart=>exact ⟨0,_,0,Nat.zero_le _,rfl,rfl,by simpa [encL] using Own.nil,Below.refl _ _⟩
 case round =>
  obtain ⟨k,A',c',hk,rfl,rfl,ho,hbe⟩:=hrel
  have HO:=Lib.hid ho
  have HE:=Lib.hid hbe
  clear ho
  by_cases hlt:k<n
  ·obtain ⟨b,o,rfl,hb,hc⟩:=hA (by omega)
   have hck:=hc k hlt
   rw [←hbe.cell (p:=⟨b,o+k,none⟩) hb] at hck
   have hs:=hbe.size
   have hx:=HIN.out k (by rw [HX.out];exact hlt)
   have HT:=Lib.hid (encL_take (ws:=ws) (k:=k) (by rw [HX.out];exact hlt))
   clear hc hbe
   generalize ws[k]?.getD 0=x at *
   obtain ⟨x,rfl⟩:=Int.eq_ofNat_of_zero_le hx.1
   have HT2:=HT.out
   rw [Int.toNat_natCast] at HT2
   replace HT:=Lib.hid HT2
   clear HT2
   go_wp2_with (first
    | ((with_reducible refine (encodeWord_any x _ (by omega)).mono ?_);rintro e w' ⟨rfl,rfl⟩)
    | (at_builtin;refine wpList_push rfl _ _ rfl w.heap.size A' k c' (encL (ws.take k)) _ rfl HO.out rfl (by omega) hs HE.out ?_;rintro g4 cap w4 o4 b4 gr4 hat4))
   go_roundw
   case rel=>exact ⟨k+1,_,_,by omega,by go_num,rfl,by rw [HT.out];exact o4,b4⟩
   case measure=>simp [intOf];omega
  ·have hkn:k=n:=by omega
   subst hkn
   go_wp2_with fail
   go_ret
   exact ⟨_,_,rfl,by have:=HO.out;rwa [List.take_of_length_le (by rw [HX.out];exact Nat.le_refl _)] at this,HE.out⟩
end Go.Proofs.Ytbnfdhidgdfbeaa

namespace Go.Proofs.Ytbnfdhidgdfbeaa
set_option maxRecDepth 100000
open Go.RowKit Cw

def bfOk (d:Dev) (ts:List Tile):Bool:=devOk d && (decide (ts.length=tiles d) && ts.all (tileOk d))
def bfF (d:Dev) (ts:List Tile):List (List Int):=if bfOk d ts=true then buildF d ts else []
theorem bfOk_bad {d:Dev} {ts:List Tile} {k:Nat} (hk:k<ts.length) (h:tileOk d (ts[k]?.getD Tile.zero)=false):bfOk d ts=false:=by
 cases hb:bfOk d ts with
 | false=>rfl
 | true =>
  unfold bfOk at hb
  simp only [Bool.and_eq_true,List.all_eq_true] at hb
  have h2:=hb.2.2 (ts[k]?.getD Tile.zero) (by rw [List.getElem?_eq_getElem hk];exact List.getElem_mem hk)
  rw [h2] at h
  cases h
theorem bfOk_good {d:Dev} {ts:List Tile} (hd:devOk d=true) (hl:ts.length=tiles d) (h:∀j,j<ts.length→tileOk d (ts[j]?.getD Tile.zero)=true):bfOk d ts=true:=by
 unfold bfOk
 rw [hd,decide_eq_true hl,Bool.true_and,Bool.true_and,List.all_eq_true]
 intro t ht
 obtain ⟨j,hj,rfl⟩:=List.getElem_of_mem ht
 have:=h j hj
 rwa [List.getElem?_eq_getElem hj] at this
/-- Bounds on the rows of tiles. -/
def TsBd (ts:List Tile):Prop:=∀i:Nat,(ts[i]?.getD Tile.zero).mux.length≤1099511627776∧∀e:Nat,((ts[i]?.getD Tile.zero).les[e]?.getD Le.zero).sel.length≤1099511627776
set_option maxHeartbeats 4000000 in
theorem buildFrames_any (d:Dev) (A:Option Addr) (n c:Nat) (ts:List Tile) (w:World) (hT:RdC w w.heap.size (celT ts) (.slice A n c)) (hbd:TsBd ts) (hn:n≤1099511627776) :
  Calls Try.prog 13 #[.agg #[.int .i64 d.W,.int .i64 d.H,.int .i64 d.T,.int .i64 d.R],.slice A n c] w fun e w'=>∃A' n' c',e = .returned (.tuple #[.slice A' n' c',.bool (bfOk d ts)])∧Own2 w.heap.size w'.heap.size w' A' n' c' (bfF d ts)∧Below w.heap.size w w':=by
 have HT:=Lib.hid hT
 have HTL:=Lib.hid hT.tlen
 have HBD:=Lib.hid hbd
 have HB0:=Lib.hid (below_new (Below.refl w.heap.size w) (.cells #[.int .i64 d.W,.int .i64 d.H,.int .i64 d.T,.int .i64 d.R] 29))
 have HDO:=Lib.hid (fun w'=>deviceOk_any d w')
 clear hT hbd
 go_enter Try.func13,Try.ntmps13
 go_wp2_with fail
 refine (HDO.out _).mono ?_
 rintro e w1 ⟨rfl,b1⟩
 have hs1:=b1.size
 simp only [World.size_alloc] at hs1
 have HW1:=Lib.hid (below_tr HB0.out b1)
 have HX1:=Lib.hid (heap_tr b1 (heap_new w (.cells #[.int .i64 d.W,.int .i64 d.H,.int .i64 d.T,.int .i64 d.R] 29)))
 clear b1
 cases hd:devOk d with
 | false =>
  have HNO:Hid (bfOk d ts=false):=by show _=_;unfold bfOk;rw [hd];rfl
  have HNF:Hid (bfF d ts=[]):=by show _=_;unfold bfF;rw [HNO.out];rfl
  clear hd
  go_wp2_with fail
  go_ret2
  exact ⟨none,0,0,by rw [HNO.out];rfl,by rw [HNF.out];exact Own2.nil,HW1.out⟩
 | true =>
  have HD:=Lib.hid hd
  have e1:d.W * d.H=(tiles d:Int):=(tiles_eq hd).1
  have hM:=(tiles_eq hd).2
  have a3:IntKind.i64.wrap (tiles d:Int)=(tiles d:Int):=IntWalk.i64_in _ (by omega)
  clear hd
  obtain ⟨z0,z1,z2,z3⟩:=cell4 HX1.out
  by_cases hl:ts.length=tiles d
  ·have hnm:n=tiles d:=by have:=HTL.out;omega
   have HL:=Lib.hid hl
   clear hl
   subst hnm
   have hne:((tiles d:Int) != (tiles d:Int))=false:=by simp
   go_wp2_with fail
   clear z0 z1 z2 z3
   go_loopw [6,26] (fun v i wr=>∃(k:Nat) (A':Option Addr) (c':Nat),k≤tiles d∧i = .int .i64 k∧v = .slice A' k c'∧(∀j,j<k→tileOk d (ts[j]?.getD Tile.zero)=true)∧Own2 w1.heap.size wr.heap.size wr A' k c' ((ts.take k).map (rowOf d))∧Below w1.heap.size w1 wr) (fun _ i _=>tiles d - (intOf i).toNat)
   case atStart=>exact ⟨0,none,0,Nat.zero_le _,rfl,rfl,by intro j hj;omega,by simpa using Own2.nil,Below.refl _ _⟩
   case round =>
    obtain ⟨k,A',c',hk,rfl,rfl,hall,hoo,hb⟩:=hrel
    have HALL:=Lib.hid hall
    have HOO:=Lib.hid hoo
    have HB:=Lib.hid hb
    have HW:=Lib.hid (below_tr HW1.out hb)
    have HXR:=Lib.hid (heap_tr hb HX1.out)
    have hsr:=hb.size
    clear hall hoo hb
    by_cases hlt:k<tiles d
    ·have hdk:decide ((k:Int)<(tiles d:Int))=true:=decide_eq_true (by omega)
     obtain ⟨b,o,S,m3,p,L,l,q,rfl,hb,c0,c1,c2,c3,r0,r1⟩:=HT.out.tile (k:=k) (by rw [HTL.out];exact hlt)
     rw [←HW.out.cell (p:=⟨b,o+k * 4,none⟩) hb] at c0
     rw [←HW.out.cell (p:=⟨b,o+k * 4+1,none⟩) hb] at c1
     rw [←HW.out.cell (p:=⟨b,o+k * 4+2,none⟩) hb] at c2
     rw [←HW.out.cell (p:=⟨b,o+k * 4+3,none⟩) hb] at c3
     have hbr:b<wr.heap.size:=by have:=HW.out.size;omega
     have hwr0:w.heap.size<wr.heap.size:=by omega
     have HSN:=Lib.hid (map_snoc (f:=rowOf d) (getD_some Tile.zero (by rw [HTL.out];exact hlt):ts[k]?=some (ts[k]?.getD Tile.zero)))
     have HTB:=Lib.hid (HBD.out k)
     have HR0:=Lib.hid (RdC.ints (r0.below HW.out))
     have HR1:=Lib.hid (r1.below HW.out)
     have HBAD:Hid (tileOk d (ts[k]?.getD Tile.zero)=false→bfOk d ts=false):=fun h=>bfOk_bad (by rw [HTL.out];exact hlt) h
     have HAS:Hid (tileOk d (ts[k]?.getD Tile.zero)=true→∀j,j<k+1→tileOk d (ts[j]?.getD Tile.zero)=true):=fun h=>all_succ HALL.out h
     have i0:(0:Int)≤(k:Int):=by omega
     have i1:(k:Int)<(tiles d:Int):=by omega
     clear r0 r1
     generalize ts[k]?.getD Tile.zero=t at *
     have hAB:=below_new (Below.refl wr.heap.size wr) (.cells #[.slice S m3 p,.slice L l q,.int .i64 t.pad,.int .i64 t.ram] 52)
     have hm3:m3≤1099511627776:=by have h1:=HR0.out.1;have h2:=HTB.out.1;omega
     obtain ⟨z0,z1,z2,z3⟩:=cell4 HXR.out
     cases htk:tileOk d t with
     | false =>
      have HNO:=Lib.hid (HBAD.out htk)
      have HNF:Hid (bfF d ts=[]):=by show _=_;unfold bfF;rw [HNO.out];rfl
      have HEN:=Lib.hid (encodeTile_no d t S m3 p L l q (wr.alloc (.cells #[.slice S m3 p,.slice L l q,.int .i64 t.pad,.int .i64 t.ram] 52)) (HR0.out.below hAB) (HR1.out.below hAB) hm3 HTB.out.2 htk)
      have HWA:=Lib.hid (below_tr HW.out hAB)
      clear htk hAB
      go_wp2_with fail
      refine HEN.out.mono ?_
      rintro e w5 ⟨rfl,b5⟩
      have HW5:=Lib.hid (below_tr HWA.out b5)
      clear b5
      go_wp2_with fail
      go_ret2
      exact ⟨none,0,0,by rw [HNO.out];rfl,by rw [HNF.out];exact Own2.nil,HW5.out⟩
     | true =>
      have HAK:=Lib.hid (HAS.out htk)
      have HEN:=Lib.hid (encodeTile_yes d t S m3 p L l q (wr.alloc (.cells #[.slice S m3 p,.slice L l q,.int .i64 t.pad,.int .i64 t.ram] 52)) (HR0.out.below hAB) (HR1.out.below hAB) hm3 HTB.out.2 htk)
      have HAB:=Lib.hid hAB
      have HEB:=Lib.hid (fun j=>encT_bd d t j)
      have HRW:Hid (encL (encT d t)=rowOf d t):=rfl
      have HEL:=Lib.hid (encT_length d t)
      have hfw:=fwI_bd HD.out
      clear htk hAB
      go_wp2_with fail
      refine HEN.out.mono ?_
      rintro e w5 ⟨A5,n5,c5,rfl,o5,b5⟩
      have HB5:=Lib.hid (below_tr HAB.out b5)
      have O5:=Lib.hid o5.ints
      have hn5:n5≤11:=by have h1:=o5.len;have h2:=HEL.out;omega
      clear o5 b5 z0 z1 z2 z3 c0 c1 c2 c3
      go_wp2_with fail
      refine (encodeWords_any A5 n5 c5 (encT d t) _ O5.out (fun j _=>HEB.out j) (by omega)).mono ?_
      rw [HRW.out]
      rintro e w6 ⟨A6,c6,rfl,o6,b6⟩
      have HB6:=Lib.hid (below_tr HB5.out b6)
      have hs5:=HB5.out.size
      have hs6:=b6.size
      have O6:=Lib.hid o6
      have HOO6:=Lib.hid (HOO.out.below HB6.out)
      have HBB:=Lib.hid (below_tr HB.out HB6.out)
      clear o6 b6
      go_wp2_with (at_builtin;refine wpList_push2 rfl _ _ rfl w1.heap.size _ A' k c' ((ts.take k).map (rowOf d)) w5.heap.size A6 n5 c6 _ rfl HOO6.out O6.out rfl (by omega) (by omega) (by omega) (by omega) (by omega) HBB.out ?_;rintro g6 cap w7 o7 b7)
      go_roundw
      case rel=>exact ⟨k+1,_,_,by omega,by go_num,rfl,HAK.out,by rw [HSN.out];exact o7,b7⟩
      case measure=>simp [intOf];omega
    ·have hkn:k=tiles d:=by omega
     have HKN:=Lib.hid hkn
     have hdk:decide ((k:Int)<(tiles d:Int))=false:=decide_eq_false (by omega)
     have HOK:Hid (bfOk d ts=true):=bfOk_good HD.out HL.out (fun j hj=>HALL.out j (by have:=HL.out;omega))
     have HFF:Hid (bfF d ts=(ts.take k).map (rowOf d)):=by
      show _=_
      unfold bfF
      rw [if_pos HOK.out,List.take_of_length_le (by have:=HL.out;omega)]
      rfl
     clear hkn
     go_wp2_with fail
     go_ret2
     exact ⟨_,_,_,by rw [HOK.out];rfl,by rw [HFF.out];exact HOO.out.widen (by omega) (Nat.le_refl _),HW.out⟩
  ·have HNO:Hid (bfOk d ts=false):=by show _=_;unfold bfOk;rw [decide_eq_false hl];simp
   have HNF:Hid (bfF d ts=[]):=by show _=_;unfold bfF;rw [HNO.out];rfl
   have hne:((n:Int) != (tiles d:Int))=true:=by have:=HTL.out;simp;omega
   clear hl
   go_wp2_with fail
   go_ret2
   exact ⟨none,0,0,by rw [HNO.out];rfl,by rw [HNF.out];exact Own2.nil,HW1.out⟩
end Go.Proofs.Ytbnfdhidgdfbeaa
