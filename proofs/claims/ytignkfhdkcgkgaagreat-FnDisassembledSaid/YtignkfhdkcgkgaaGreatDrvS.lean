/- The selected source of a routing node: in plain terms, and the program's DriverOf. Drivers of all nodes in plain terms. The selected source of a routing node: the reference's functions. -/
import Derived.Test.YtignkfhdkcgkgaaGreatRt3
import Derived.Test.YtignkfhdkcgkgaaGreatRt5
import Derived.Test.YtignkfhdkcgkgaaGreatRtS5
import Derived.Test.YtignkfhdkcgkgaaGreatStartS
namespace Go.Proofs.YtignkfhdkcgkgaaGreat
set_option maxRecDepth 100000
open Go.RowKit

/-- Configurations that fit a device. -/
structure CfgOk (d:Dev) (ts:List Tile):Prop where
 dev:devOk d=true
 len:ts.length=tiles d
 fit:∀k,k<ts.length→tileOk d (ts[k]?.getD Tile.zero)=true
theorem getW_in (ws:List Int) (p n:Nat) (h:n≤16) (m:Int) (hm:(2:Int) ^ n≤m+1):inR (getW ws p n) 0 m=true:=by
 have:=getW_bd ws p n h
 rw [inR_iff]
 omega
theorem decLe_ok (ws:List Int) (p:Nat):leOk (decLe ws p)=true:=by
 unfold leOk decLe
 simp only [Bool.and_eq_true,decide_eq_true_eq]
 refine ⟨rfl,getW_in _ _ _ (by omega) _ (by decide),getW_in _ _ _ (by omega) _ (by decide),getW_in _ _ _ (by omega) _ (by decide),allIn_good fun j hj=>?_⟩
 have:j=0∨j=1∨j=2∨j=3:=by simp at hj;omega
 rcases this with rfl|rfl|rfl|rfl <;> exact getW_in _ _ _ (by omega) _ (by decide)
theorem decMux_length (ws:List Int) (m:Nat):(decMux ws m).length=m:=by simp [decMux]
theorem decT_ok {d:Dev} (hd:devOk d=true) (ws:List Int):tileOk d (decT d ws)=true:=by
 unfold tileOk decT
 simp only [Bool.and_eq_true,decide_eq_true_eq]
 refine ⟨hd,decMux_length _ _,rfl,getW_in _ _ _ (by omega) _ (by decide),getW_in _ _ _ (by omega) _ (by decide),allIn_good fun j hj=>?_,decLe_ok _ _,decLe_ok _ _⟩
 rw [decMux_length] at hj
 unfold decMux
 rw [List.getElem?_map,List.getElem?_range hj]
 exact getW_in _ _ _ (by omega) _ (by decide)
theorem cfg_of_frames {d:Dev} {fs:List (List Int)} (h:framesOk d fs=true):CfgOk d (tilesOf d fs):=by
 obtain ⟨h1,h2,h3⟩:=framesOk_iff h
 refine ⟨h1,by rw [tilesOf_length,h2],fun k hk=>?_⟩
 rw [tilesOf_length] at hk
 unfold tilesOf
 rw [List.getElem?_map,List.getElem?_eq_getElem hk]
 exact decT_ok h1 _

def selK (d:Dev) (n:Int):Int:=if n % perT d≥7 then n % perT d - 2 else n % perT d
def tileAt (ts:List Tile) (q:Int):Tile:=ts[q.toNat]?.getD Tile.zero
def selOf (d:Dev) (ts:List Tile) (n:Int):Int:=(tileAt ts (n / perT d)).mux[(selK d n).toNat]?.getD 0
def drvSel (s:Int) (src:List Int):Int:=if s=0∨s>(src.length:Int) then -1 else src[(s - 1).toNat]?.getD 0
def drvOf (d:Dev) (ts:List Tile) (n:Int):Int:=if nodeOk d n=true∧¬(n % perT d=5∨n % perT d=6) then drvSel (selOf d ts n) (srcs d n) else -1
theorem cfg_tile {d:Dev} {ts:List Tile} {n:Int} (h:CfgOk d ts) (hn:nodeIn d n=true):(n / perT d).toNat<ts.length∧TileFit d (tileAt ts (n / perT d)):=by
 obtain ⟨hd,_,_,hq0,hq1,_⟩:=node_tk hn
 have hN:=(tiles_eq hd).1
 have hlt:(n / perT d).toNat<ts.length:=by rw [h.len];omega
 exact ⟨hlt,tileOk_iff (h.fit _ hlt)⟩
theorem sel_in {d:Dev} {n:Int} (hn:nodeIn d n=true) (_h5:¬(n % perT d=5∨n % perT d=6)):0≤selK d n∧selK d n<(muxN d:Int):=by
 obtain ⟨hd,_,_,_,_,hr0,hr1⟩:=node_tk hn
 have hT:=devOk_bd hd
 have hm:=(muxN_bd hd).1
 unfold selK
 unfold perT at *
 split <;> omega
theorem sel_bd {d:Dev} {ts:List Tile} {n:Int} (h:CfgOk d ts) (hn:nodeIn d n=true) (h5:¬(n % perT d=5∨n % perT d=6)):0≤selOf d ts n∧selOf d ts n≤31:=by
 obtain ⟨_,hf⟩:=cfg_tile h hn
 have hs:=sel_in hn h5
 unfold selOf
 exact hf.muxIn _ (by rw [hf.mux];omega)

set_option maxHeartbeats 1000000 in
theorem selectionOf_any (d:Dev) (A:Option Addr) (m c:Nat) (ts:List Tile) (n:Int) (w:World) (hA:RdC w w.heap.size (celT ts) (.slice A m c)) (hc:CfgOk d ts) (hn:nodeIn d n=true) (h5:¬(n % perT d=5∨n % perT d=6)) :
  Calls Tryz.prog 198 #[.agg #[.int .i64 d.W,.int .i64 d.H,.int .i64 d.T,.int .i64 d.R],.slice A m c,.int .i64 n] w fun e w'=>e = .returned (.int .i64 (selOf d ts n))∧Below w.heap.size w w':=by
 obtain ⟨hlt,hf⟩:=cfg_tile hc hn
 have hsi:=sel_in hn h5
 have HSO:Hid (selOf d ts n=(tileAt ts (n / perT d)).mux[(selK d n).toNat]?.getD 0):=rfl
 have HSK:Hid (selK d n=if n % perT d≥7 then n % perT d - 2 else n % perT d):=rfl
 obtain ⟨hd,n0,n1,hq0,hq1,hr0,hr1⟩:=node_tk hn
 have hp:=perT_bd hd
 have HN:=Lib.hid hn
 have hml:=(muxN_bd hd).1
 obtain ⟨b,o,S,m3,p,L,l,q,rfl,hb,c0,c1,c2,c3,r0,r1⟩:=hA.tile hlt
 have hI:=RdC.ints r0
 have HMX:=Lib.hid hf.mux
 have hIL:=hI.1
 change (tileAt ts (n / perT d)).mux.length=m3 at hIL
 rw [hf.mux] at hIL
 have htl:=hA.tlen
 have hlen:(n / perT d).toNat<m:=by omega
 clear hA hc hn hd c1 c2 c3 r0 r1 hf
 obtain ⟨bm,om,rfl,hbm,hcm⟩:=hI.2 (by omega)
 have hcx:=hcm (selK d n).toNat (by omega)
 change w.cell? ⟨bm,om+(selK d n).toNat,none⟩=some (.int .i64 ((tileAt ts (n / perT d)).mux[(selK d n).toNat]?.getD 0)) at hcx
 have HCX:=Lib.hid hcx
 have HC0:=Lib.hid c0
 clear hI hcm hcx c0
 go_enter Tryz.func198,Tryz.ntmps198
 go_wp2_with fail
 refine (nodePlace_any d n _ HN.out).mono ?_
 rintro e w1 ⟨rfl,b1⟩
 have hb1:=b1.size
 simp only [World.size_alloc] at hb1
 have B1:=Lib.hid (below_tr (below_new (Below.refl _ _) _) b1)
 clear b1
 generalize hk:n % perT d=k at *
 generalize hkk:selK d n=kk at *
 generalize hq:n / perT d=q at *
 have HKK:=Lib.hid hkk
 have HQ:=Lib.hid hq
 clear hk hkk hq HN
 obtain ⟨q,rfl⟩:=Int.eq_ofNat_of_zero_le hq0
 obtain ⟨kk,rfl⟩:=Int.eq_ofNat_of_zero_le hsi.1
 have hc0:=(B1.out.cell (p:=⟨b,o+((q:Int).toNat) * 4,none⟩) hb).trans HC0.out
 have hcx:=(B1.out.cell (p:=⟨bm,om+((kk:Int).toNat),none⟩) hbm).trans HCX.out
 rw [Int.toNat_natCast] at hc0 hcx
 rw [Int.toNat_natCast] at hlen hlt
 have i0:(0:Int)≤(q:Int):=hq0
 have i1:(q:Int)<(m:Int):=by omega
 have i2:(0:Int)≤(kk:Int):=by omega
 have i3:(kk:Int)<(m3:Int):=by omega
 have hbl:b<w1.heap.size:=by omega
 have hbml:bm<w1.heap.size:=by omega
 have hso:=HSO.out
 rw [Int.toNat_natCast] at hso
 rw [←hso] at hcx
 clear hso
 generalize hsv:selOf d ts n=sv at *
 have HSV:=Lib.hid hsv
 clear hsv
 by_cases h7:k≥7
 ·have h:=HSK.out
  rw [if_pos h7] at h
  have e7:k - 2=(kk:Int):=h.symm
  obtain rfl:k=(kk:Int)+2:=by omega
  have e8:IntKind.i64.wrap ((kk:Int)+2 - 2)=(kk:Int):=by rw [IntWalk.i64_in _ (by omega)];omega
  have hd7:decide ((kk:Int)+2≥7)=true:=by simpa using h7
  clear h e7
  go_wp2_with fail
  go_ret
  exact ⟨ret_int HSV.out.symm,B1.out⟩
 ·have h:=HSK.out
  rw [if_neg h7] at h
  obtain rfl:(kk:Int)=k:=h
  have hd7:decide ((kk:Int)≥7)=false:=by simp;omega
  go_wp2_with fail
  go_ret
  exact ⟨ret_int HSV.out.symm,B1.out⟩

set_option maxHeartbeats 1000000 in
theorem driverOf_any (d:Dev) (A:Option Addr) (m c:Nat) (ts:List Tile) (n:Int) (S:Option Addr) (l cs:Nat) (src:List Int) (w:World) (hA:RdC w w.heap.size (celT ts) (.slice A m c)) (hS:Ints w S l src) (hc:CfgOk d ts) (hn:nodeIn d n=true) (h5:¬(n % perT d=5∨n % perT d=6)) (hl:l≤1048576) :
  Calls Tryz.prog 143 #[.agg #[.int .i64 d.W,.int .i64 d.H,.int .i64 d.T,.int .i64 d.R],.slice A m c,.int .i64 n,.slice S l cs] w fun e w'=>e = .returned (.int .i64 (drvSel (selOf d ts n) src))∧Below w.heap.size w w':=by
 have hsb:=sel_bd hc hn h5
 have HSEL:=Lib.hid (fun w hA=>selectionOf_any d A m c ts n w hA hc hn h5)
 have HA:=Lib.hid hA
 have HS:=Lib.hid hS
 have HSL:=Lib.hid hS.1
 have HDS:Hid (drvSel (selOf d ts n) src=if selOf d ts n=0∨selOf d ts n>(src.length:Int) then -1 else src[(selOf d ts n - 1).toNat]?.getD 0):=rfl
 generalize selOf d ts n=s at *
 clear hA hS hc hn h5
 go_enter Tryz.func143,Tryz.ntmps143
 go_wp2_with fail
 refine (HSEL.out _ (HA.out.below (below_new (Below.refl _ _) _))).mono ?_
 rintro e w1 ⟨rfl,b1⟩
 have HB1:=Lib.hid (below_tr (below_new (Below.refl _ _) _) b1)
 have hs1:=b1.size
 simp only [World.size_alloc] at hs1
 clear b1
 by_cases h0:s=0
 ·have q0:(s==0)=true:=by simpa using h0
  have H0:=Lib.hid h0
  clear h0
  go_wp2_with fail
  go_ret
  exact ⟨ret_int (by rw [HDS.out,if_pos (.inl H0.out)]),HB1.out⟩
 ·have q0:(s==0)=false:=by simpa using h0
  by_cases h1:s>(l:Int)
  ·have q1:decide (s>(l:Int))=true:=by simpa using h1
   clear h0
   go_wp2_with fail
   go_ret
   exact ⟨ret_int (by rw [HDS.out,if_pos (.inr (by rw [HSL.out];exact h1))]),HB1.out⟩
  ·have q1:decide (s>(l:Int))=false:=by simp;omega
   obtain ⟨b,o,rfl,hb,hcell⟩:=(HS.out.below HB1.out).2 (by omega)
   have hck:=hcell (s.toNat - 1) (by omega)
   have HD:Hid (drvSel s src=src[s.toNat - 1]?.getD 0):=by show _=_;rw [HDS.out,if_neg (by rw [HSL.out];omega),show (s - 1).toNat=s.toNat - 1 by omega]
   have e4:IntKind.i64.wrap (s - 1)=s - 1:=IntWalk.i64_in _ (by omega)
   have i0:(0:Int)≤s - 1:=by omega
   have i1:s - 1<(l:Int):=by omega
   clear hcell h0 HDS
   go_wp2_with fail
   go_ret
   exact ⟨ret_int HD.out.symm,HB1.out⟩

set_option maxHeartbeats 1000000 in
theorem isOutPin_any (d:Dev) (n:Int) (w:World) :
  Calls Tryz.prog 142 #[.agg #[.int .i64 d.W,.int .i64 d.H,.int .i64 d.T,.int .i64 d.R],.int .i64 n] w fun e w'=>e = .returned (.bool (nodeOk d n && (decide (n % perT d=5) || decide (n % perT d=6))))∧Below w.heap.size w w':=by
 go_enter Tryz.func142,Tryz.ntmps142
 go_wp2_with fail
 cases hno:nodeOk d n with
 | false =>
  have HNO:=Lib.hid hno
  refine (prouteNodeOk_any d n _).mono ?_
  rw [hno]
  rintro e w1 ⟨rfl,b1⟩
  have HB1:=Lib.hid (below_tr (below_new (Below.refl _ _) _) b1)
  clear b1 hno
  go_wp2_with fail
  go_ret
  exact ⟨ret_bool (by rw [HNO.out];rfl),HB1.out⟩
 | true =>
  have hni:nodeIn d n=true:=by unfold nodeOk at hno;rw [Bool.and_eq_true] at hno;exact hno.1
  have HNI:=Lib.hid hni
  have HNO:=Lib.hid hno
  refine (prouteNodeOk_any d n _).mono ?_
  rw [hno]
  rintro e w1 ⟨rfl,b1⟩
  have HB1:=Lib.hid b1
  have hs1:=b1.size
  simp only [World.size_alloc] at hs1
  obtain ⟨hcc,hff⟩:=bcell b1
  clear b1 hno hni
  go_wp2_with fail
  refine (nodePlace_any d n _ HNI.out).mono ?_
  rintro e w2 ⟨rfl,b2⟩
  have HB2:=Lib.hid (below_tr (below_new (Below.refl _ _) _) (below_tr HB1.out b2))
  clear b2 hcc hff
  generalize hk:n % perT d=k at *
  have HK:=Lib.hid hk
  clear hk
  by_cases h5:k=5
  ·have q:(k==5)=true:=by simpa using h5
   have H5:=Lib.hid h5
   clear h5
   go_wp2_with fail
   go_ret
   exact ⟨ret_bool (by rw [HNO.out,HK.out,H5.out];rfl),HB2.out⟩
  ·have q:(k==5)=false:=by simpa using h5
   by_cases h6:k=6
   ·have q6:(k==6)=true:=by simpa using h6
    have H6:=Lib.hid h6
    clear h5 h6
    go_wp2_with fail
    go_ret
    exact ⟨ret_bool (by rw [HNO.out,HK.out,H6.out];rfl),HB2.out⟩
   ·have q6:(k==6)=false:=by simpa using h6
    have H5:=Lib.hid h5
    have H6:=Lib.hid h6
    clear h5 h6
    go_wp2_with fail
    go_ret
    exact ⟨ret_bool (by rw [HNO.out,HK.out];simp [H5.out,H6.out]),HB2.out⟩

theorem srcs_le (d:Dev) (n:Int):(srcs d n).length≤34:=by
 unfold srcs
 split
 ·rename_i h
  have hno:=h.1
  unfold nodeOk at hno
  rw [Bool.and_eq_true] at hno
  have hT:=devOk_bd (node_tk hno.1).1
  have h1:=asc_length_le (itemsOf d (n / perT d) (n % perT d))
  have hK:∀(r:Int) (k:Nat),(candK d (n / perT d) (n % perT d) r (k:Int) (wlen (k:Int)).toNat).length≤2:=by
   intro r k
   have hw:(wlen (k:Int)).toNat≤2:=by unfold wlen;omega
   have hS:∀s:Int,(candS d (n / perT d) (n % perT d) r (k:Int) s).length≤1:=by
    intro s;unfold candS oneOf;split <;> (try split) <;> simp
   have:∀s:Nat,(candK d (n / perT d) (n % perT d) r (k:Int) s).length≤s:=by
    intro s
    induction s with
    | zero=>simp [candK]
    | succ s ih=>rw [candK_succ,List.length_append];have:=hS ((s:Int)+1);omega
   have:=this (wlen (k:Int)).toNat
   omega
  have hR:∀(r:Int) (k:Nat),(candR d (n / perT d) (n % perT d) r k).length≤2 * k:=by
   intro r k
   induction k with
   | zero=>simp [candR]
   | succ k ih=>rw [candR_succ,List.length_append];have:=hK r k;omega
  have hA:∀r:Nat,(candA d (n / perT d) (n % perT d) r).length≤8 * r:=by
   intro r
   induction r with
   | zero=>simp [candA]
   | succ r ih=>rw [candA_succ,List.length_append];have:=hR (r:Int) d.T.toNat;omega
  have:=hA 4
  have ho:(outsOf d (n / perT d)).length≤2:=by unfold outsOf;split <;> simp
  have hI:(itemsOf d (n / perT d) (n % perT d)).length≤34:=by
   unfold itemsOf
   rw [List.length_append]
   split
   ·omega
   ·simp;omega
  omega
 ·simp

end Go.Proofs.YtignkfhdkcgkgaaGreat

namespace Go.Proofs.YtignkfhdkcgkgaaGreat
set_option maxRecDepth 100000
open Go.RowKit

theorem nodeIn_rnP {d:Dev} {n:Int}:nodeIn d n=true↔devOk d=true∧0≤n∧n<nodesOf d:=by
 unfold nodeIn
 simp only [Bool.and_eq_true,decide_eq_true_eq]
theorem mux_cell {w:World} {d:Dev} {A:Option Addr} {m c:Nat} {ts:List Tile} {n:Int} (hA:RdC w w.heap.size (celT ts) (.slice A m c)) (hc:CfgOk d ts) (hn:nodeIn d n=true) (h5:¬(n % perT d=5∨n % perT d=6)) :
  ∃b o bm om m3 p,A=some ⟨b,o,none⟩∧b<w.heap.size∧w.cell? ⟨b,o+(n / perT d).toNat * 4,none⟩=some (.slice (some ⟨bm,om,none⟩) m3 p)∧bm<w.heap.size∧w.cell? ⟨bm,om+(selK d n).toNat,none⟩=some (.int .i64 (selOf d ts n))∧(n / perT d).toNat<m∧(selK d n).toNat<m3:=by
 obtain ⟨hlt,hf⟩:=cfg_tile hc hn
 have hsi:=sel_in hn h5
 obtain ⟨b,o,S,m3,p,L,l,q,rfl,hb,c0,c1,c2,c3,r0,r1⟩:=hA.tile hlt
 have hI:=RdC.ints r0
 have hIL:=hI.1
 change (tileAt ts (n / perT d)).mux.length=m3 at hIL
 rw [hf.mux] at hIL
 have htl:=hA.tlen
 obtain ⟨bm,om,rfl,hbm,hcm⟩:=hI.2 (by omega)
 have hcx:=hcm (selK d n).toNat (by omega)
 exact ⟨b,o,bm,om,m3,p,rfl,hb,c0,hbm,hcx,by omega,by omega⟩

def drvTo (d:Dev) (ts:List Tile) (k:Nat):List Int:=(List.range k).map fun (j:Nat)=>drvOf d ts (j:Int)
theorem drvTo_succ (d:Dev) (ts:List Tile) (k:Nat):drvTo d ts (k+1)=drvTo d ts k++[drvOf d ts (k:Int)]:=by simp [drvTo,List.range_succ]
theorem drvTo_length (d:Dev) (ts:List Tile) (k:Nat):(drvTo d ts k).length=k:=by simp [drvTo]
theorem drvOf_live {d:Dev} {ts:List Tile} {n:Int} (h:nodeOk d n=true) (h5:¬(n % perT d=5∨n % perT d=6)):drvOf d ts n=drvSel (selOf d ts n) (srcs d n):=by unfold drvOf;rw [if_pos ⟨h,h5⟩]
theorem drvOf_dead {d:Dev} {ts:List Tile} {n:Int} (h:¬(nodeOk d n=true∧¬(n % perT d=5∨n % perT d=6))):drvOf d ts n=-1∧srcs d n=[]:=by
 unfold drvOf srcs
 rw [if_neg h,if_neg h]
 exact ⟨rfl,rfl⟩
theorem drvSel_out {s:Int} {src:List Int} (h:s<1∨s>(src.length:Int)) (h0:0≤s):drvSel s src=-1:=by unfold drvSel;rw [if_pos (by omega)]
theorem drvSel_in {s:Int} {src:List Int} (h:1≤s) (h1:s≤(src.length:Int)):drvSel s src=src[s.toNat - 1]?.getD 0:=by unfold drvSel;rw [if_neg (by omega),show (s - 1).toNat=s.toNat - 1 by omega]

end Go.Proofs.YtignkfhdkcgkgaaGreat

namespace Go.Proofs.YtignkfhdkcgkgaaGreat
set_option maxRecDepth 100000
open Go.RowKit

set_option maxHeartbeats 1000000 in
theorem ssources_none (d:Dev) (n:Int) (w:World) (h:nodeOk d n=false∨(nodeOk d n=true∧(n % perT d=5∨n % perT d=6))) :
  Calls Tryz.prog 137 #[.agg #[.int .i64 d.W,.int .i64 d.H,.int .i64 d.T,.int .i64 d.R],.int .i64 n] w fun e w'=>∃A m c,e = .returned (.slice A m c)∧Own w.heap.size w' A m c (srcs d n)∧Below w.heap.size w w':=by
 have HB0:=Lib.hid (below_new (Below.refl w.heap.size w) (.cells #[.int .i64 d.W,.int .i64 d.H,.int .i64 d.T,.int .i64 d.R] 25))
 rcases h with hno|⟨hno,h5⟩
 ·have HS:=Lib.hid (srcs_no hno)
  have HNO:Hid (∀w,Calls Tryz.prog 184 #[.agg #[.int .i64 d.W,.int .i64 d.H,.int .i64 d.T,.int .i64 d.R],.int .i64 n] w fun e w'=>e = .returned (.bool false)∧Below w.heap.size w w'):=fun w=>by have h:=srouteNodeOk_any d n w;rwa [hno] at h
  clear hno
  go_enter Tryz.func137,Tryz.ntmps137
  go_wp2_with fail
  refine (HNO.out _).mono ?_
  rintro e w1 ⟨rfl,b1⟩
  have N1:=Lib.hid ((Own.newAt (w:=(w.alloc (.cells #[.int .i64 d.W,.int .i64 d.H,.int .i64 d.T,.int .i64 d.R] 25))) (base:=(w.alloc (.cells #[.int .i64 d.W,.int .i64 d.H,.int .i64 d.T,.int .i64 d.R] 25)).heap.size) (g:=w.heap.size+1) (by simp) (by simp)).below b1)
  have HB1:=Lib.hid (below_tr (below_new HB0.out _) b1)
  clear b1
  go_wp2_with fail
  go_ret
  exact ⟨_,0,0,rfl,by rw [HS.out];exact N1.out.more (by simp),HB1.out⟩
 ·have HS:=Lib.hid (srcs_out h5)
  have hni:nodeIn d n=true:=by unfold nodeOk at hno;rw [Bool.and_eq_true] at hno;exact hno.1
  obtain ⟨hd,n0,n1,hq0,hq1,hr0,hr1⟩:=node_tk hni
  have hT:=devOk_bd hd
  have hp:=perT_bd hd
  have hWH:=dev_WH hd
  have HNO:Hid (∀w,Calls Tryz.prog 184 #[.agg #[.int .i64 d.W,.int .i64 d.H,.int .i64 d.T,.int .i64 d.R],.int .i64 n] w fun e w'=>e = .returned (.bool true)∧Below w.heap.size w w'):=fun w=>by have h:=srouteNodeOk_any d n w;rwa [hno] at h
  have e0:¬perT d=0:=by omega
  have e1:n.tmod (perT d)=n % perT d:=Int.tmod_eq_emod_of_nonneg n0
  have e2:IntKind.i64.wrap (n.tdiv (perT d))=n / perT d:=IntWalk.i64_quo _ _ ⟨n0,by omega,by omega⟩
  clear hno hni hd
  go_enter Tryz.func137,Tryz.ntmps137
  go_wp2_with fail
  refine (HNO.out _).mono ?_
  rintro e w1 ⟨rfl,b1⟩
  have N1:=Lib.hid ((Own.newAt (w:=(w.alloc (.cells #[.int .i64 d.W,.int .i64 d.H,.int .i64 d.T,.int .i64 d.R] 25))) (base:=(w.alloc (.cells #[.int .i64 d.W,.int .i64 d.H,.int .i64 d.T,.int .i64 d.R] 25)).heap.size) (g:=w.heap.size+1) (by simp) (by simp)).below b1)
  have HB1:=Lib.hid (below_tr (below_new (Below.refl _ _) _) b1:Below (w.alloc (.cells #[.int .i64 d.W,.int .i64 d.H,.int .i64 d.T,.int .i64 d.R] 25)).heap.size (w.alloc (.cells #[.int .i64 d.W,.int .i64 d.H,.int .i64 d.T,.int .i64 d.R] 25)) w1)
  have hs1:=b1.size
  simp only [World.size_alloc] at hs1
  clear b1
  obtain ⟨hcc,hff⟩:=bcell HB1.out
  go_wp2_with fail
  refine (l27Per_any d _ (by omega) (by omega)).mono ?_
  rintro e w2 ⟨rfl,b2⟩
  have HB2:=Lib.hid (below_tr HB1.out b2)
  have N2:=Lib.hid (N1.out.below b2)
  have hs2:=b2.size
  clear b2 hcc hff
  obtain ⟨hcc,hff⟩:=bcell HB2.out
  go_wp2_with fail
  refine (l27Per_any d _ (by omega) (by omega)).mono ?_
  rintro e w3 ⟨rfl,b3⟩
  have HB3:=Lib.hid (below_tr HB0.out (below_tr HB2.out b3))
  have N3:=Lib.hid (N2.out.below b3)
  clear b3 hcc hff
  generalize n % perT d=pin at *
  have h2:((pin==5)=true)∨((pin==5)=false∧(pin==6)=true):=by
   rcases h5 with h|h
   ·exact .inl (by simpa using h)
   ·exact .inr ⟨by simp;omega,by simpa using h⟩
  clear h5
  rcases h2 with q5|⟨q5,q6⟩
  all_goals
   go_wp2_with fail
   go_ret
   exact ⟨_,0,0,rfl,by rw [HS.out];exact N3.out.more (by simp),HB3.out⟩
theorem ssources_any (d:Dev) (n:Int) (w:World) :
  Calls Tryz.prog 137 #[.agg #[.int .i64 d.W,.int .i64 d.H,.int .i64 d.T,.int .i64 d.R],.int .i64 n] w fun e w'=>∃A m c,e = .returned (.slice A m c)∧Own w.heap.size w' A m c (srcs d n)∧Below w.heap.size w w':=by
 cases hno:nodeOk d n with
 | false=>exact ssources_none d n w (.inl hno)
 | true =>
  by_cases h5:n % perT d=5∨n % perT d=6
  ·exact ssources_none d n w (.inr ⟨hno,h5⟩)
  ·rcases Int.lt_or_le (n % perT d) 5 with h|h
   ·exact ssources_pin d n w hno h
   ·exact ssources_wire d n w hno (by omega)

set_option maxHeartbeats 4000000 in
theorem l41Drivers_any (d:Dev) (A:Option Addr) (m c:Nat) (ts:List Tile) (w:World) (hA:RdC w w.heap.size (celT ts) (.slice A m c)) (hc:CfgOk d ts) :
  Calls Tryz.prog 66 #[.agg #[.int .i64 d.W,.int .i64 d.H,.int .i64 d.T,.int .i64 d.R],.slice A m c] w fun e w'=>∃A' c',e = .returned (.slice A' (nodesOf d).toNat c')∧Own w.heap.size w' A' (nodesOf d).toNat c' (drvTo d ts (nodesOf d).toNat)∧Below w.heap.size w w':=by
 have HB0:=Lib.hid (below_new (Below.refl w.heap.size w) (.cells #[.int .i64 d.W,.int .i64 d.H,.int .i64 d.T,.int .i64 d.R] 25))
 have HA:=Lib.hid hA
 have HC:=Lib.hid hc
 have hT:=devOk_bd hc.dev
 have hp:=perT_bd hc.dev
 have hWH:=dev_WH hc.dev
 have hnb:=nodesOf_bd hc.dev
 have HD:=Lib.hid hc.dev
 have HRN:=Lib.hid (rn_pos hc.dev)
 obtain ⟨N,hN⟩:∃N:Nat,nodesOf d=(N:Int):=⟨(nodesOf d).toNat,by omega⟩
 have HN:=Lib.hid hN
 have HNI:Hid (∀k:Nat,k<N→nodeIn d (k:Int)=true):=by
  intro k hk
  exact nodeIn_rn.2 ⟨by omega,by rw [rn_pos hc.dev,hN];omega⟩
 have HRNC:Hid (∀w,Calls Tryz.prog 67 #[.agg #[.int .i64 d.W,.int .i64 d.H,.int .i64 d.T,.int .i64 d.R]] w fun e w'=>e = .returned (.int .i64 (N:Int))∧Below w.heap.size w w'):=fun w=>by have h:=sRouteNodes_any d w;rwa [rn_pos hc.dev,hN] at h
 have hNN:(nodesOf d).toNat=N:=by omega
 rw [hN] at hnb
 rw [hNN]
 clear hA hc hN hNN
 go_enter Tryz.func66,Tryz.ntmps66
 go_wp2_with fail
 have hcl0:((w.alloc (.cells #[.int .i64 d.W,.int .i64 d.H,.int .i64 d.T,.int .i64 d.R] 25)).alloc (.cells #[] 3)).cell? ⟨w.heap.size,0,none⟩=some (.int .i64 d.W):=cell_heap (heap_al _ (heap_new w _)) rfl
 refine (l27Per_any d _ (by omega) (by omega)).mono ?_
 rintro e w1 ⟨rfl,b1⟩
 have N1:=Lib.hid ((Own.newAt (w:=(w.alloc (.cells #[.int .i64 d.W,.int .i64 d.H,.int .i64 d.T,.int .i64 d.R] 25))) (base:=(w.alloc (.cells #[.int .i64 d.W,.int .i64 d.H,.int .i64 d.T,.int .i64 d.R] 25)).heap.size) (g:=w.heap.size+1) (by simp) (by simp)).below b1)
 have HB1:=Lib.hid (below_tr (below_new (Below.refl _ _) _) b1:Below (w.alloc (.cells #[.int .i64 d.W,.int .i64 d.H,.int .i64 d.T,.int .i64 d.R] 25)).heap.size (w.alloc (.cells #[.int .i64 d.W,.int .i64 d.H,.int .i64 d.T,.int .i64 d.R] 25)) w1)
 clear b1 hcl0
 have hpe0:¬perT d=0:=by omega
 go_wp2_with fail
 go_loopw [5,7] (fun v i wr=>∃(k:Nat) (A2:Option Addr) (c2:Nat),k≤N∧i = .int .i64 k∧v = .slice A2 k c2∧Own (w.alloc (.cells #[.int .i64 d.W,.int .i64 d.H,.int .i64 d.T,.int .i64 d.R] 25)).heap.size wr A2 k c2 (drvTo d ts k)∧Below (w.alloc (.cells #[.int .i64 d.W,.int .i64 d.H,.int .i64 d.T,.int .i64 d.R] 25)).heap.size (w.alloc (.cells #[.int .i64 d.W,.int .i64 d.H,.int .i64 d.T,.int .i64 d.R] 25)) wr) (fun _ i _=>N - (intOf i).toNat)
 case atStart=>exact ⟨0,_,0,by omega,rfl,rfl,by simpa [drvTo] using N1.out,HB1.out⟩
 case round =>
  obtain ⟨k,A2,c2,hk,rfl,rfl,ho,hb⟩:=hrel
  have HO:=Lib.hid ho
  have HB:=Lib.hid hb
  have hs:=hb.size
  simp only [World.size_alloc] at hs
  obtain ⟨hcc,hff⟩:=bcell hb
  clear ho hb
  by_cases hlt:k<N
  ·have hdk:decide ((k:Int)<(N:Int))=true:=by simp;omega
   have hni:=HNI.out k hlt
   have HNIK:=Lib.hid hni
   obtain ⟨_,n0,n1,hq0,hq1,hr0,hr1⟩:=node_tk hni
   have HSUC:=Lib.hid (drvTo_succ d ts k)
   clear hni
   go_wp2_with fail
   refine (HRNC.out _).mono ?_
   rintro e w2 ⟨rfl,b2⟩
   have HB2:=Lib.hid (below_tr HB.out b2)
   have HO2:=Lib.hid (HO.out.below b2)
   have hs2:=b2.size
   clear b2 hcc hff
   obtain ⟨hcc,hff⟩:=bcell HB2.out
   go_wp2_with fail
   refine (ssources_any d (k:Int) _).mono ?_
   rintro e w3 ⟨A3,l3,c3,rfl,o3,b3⟩
   have HB3:=Lib.hid (below_tr HB2.out b3)
   have HO3:=Lib.hid (HO2.out.below b3)
   have HS3:=Lib.hid o3.ints
   have hl3:=o3.len
   have hle:=srcs_le d (k:Int)
   have hs3:=b3.size
   have HA3:=Lib.hid (HA.out.below (below_tr HB0.out HB3.out))
   clear b3 o3 hcc hff
   have e1:((k:Int)).tmod (perT d)=(k:Int) % perT d:=Int.tmod_eq_emod_of_nonneg n0
   have e2:IntKind.i64.wrap (((k:Int)).tdiv (perT d))=(k:Int) / perT d:=IntWalk.i64_quo _ _ ⟨n0,by omega,by omega⟩
   by_cases hlive:nodeOk d (k:Int)=true∧¬((k:Int) % perT d=5∨(k:Int) % perT d=6)
   ·have HDX0:=Lib.hid (drvOf_live (ts:=ts) hlive.1 hlive.2)
    have hsb:=sel_bd HC.out HNIK.out hlive.2
    obtain ⟨b,o,bm,om,m3,p,rfl,hbl,ca,hbm,cb,hqm,hkm⟩:=mux_cell HA3.out HC.out HNIK.out hlive.2
    have hsi:=sel_in HNIK.out hlive.2
    have HSK:Hid (selK d (k:Int)=if (k:Int) % perT d≥7 then (k:Int) % perT d - 2 else (k:Int) % perT d):=rfl
    have hDIN:=Lib.hid (fun h h1=>drvSel_in (s:=selOf d ts (k:Int)) (src:=srcs d (k:Int)) h h1)
    have hDOUT:=Lib.hid (fun h h1=>drvSel_out (s:=selOf d ts (k:Int)) (src:=srcs d (k:Int)) h h1)
    have HL3:=Lib.hid hl3
    rw [hl3] at hle
    clear hlive hl3
    generalize selOf d ts (k:Int)=s at *
    generalize (k:Int) % perT d=pin at *
    generalize hqq:(k:Int) / perT d=q at *
    generalize hkk:selK d (k:Int)=kk at *
    clear hkk
    obtain ⟨q,rfl⟩:=Int.eq_ofNat_of_zero_le hq0
    obtain ⟨kk,rfl⟩:=Int.eq_ofNat_of_zero_le hsi.1
    rw [Int.toNat_natCast] at ca cb hqm hkm
    by_cases hl0:l3=0
    ·have HDX:Hid (drvOf d ts (k:Int)=-1):=by show _=_;rw [HDX0.out,hDOUT.out (by rw [HL3.out,hl0];omega) hsb.1]
     have hdl:decide (0<l3)=false:=by simp;omega
     clear hl0 ca cb
     go_wp2_with (at_builtin;refine wpList_push rfl _ _ rfl (w.alloc (.cells #[.int .i64 d.W,.int .i64 d.H,.int .i64 d.T,.int .i64 d.R] 25)).heap.size A2 k c2 _ (-1) rfl HO3.out rfl (by omega) (by simp;omega) HB3.out ?_;rintro g4 c4 w4 o4 b4 - -)
     go_roundw
     case rel=>exact ⟨k+1,_,c4,by omega,by go_num,rfl,by rw [HSUC.out,HDX.out];exact o4,b4⟩
     case measure=>simp [intOf];omega
    ·have hdl:decide (0<l3)=true:=by simp;omega
     have i0:(0:Int)≤(q:Int):=by omega
     have i1:(q:Int)<(m:Int):=by omega
     have i2:(0:Int)≤(kk:Int):=by omega
     have i3:(kk:Int)<(m3:Int):=by omega
     have hpk:(pin≥7∧pin - 2=(kk:Int))∨(¬pin≥7∧pin=(kk:Int)):=by
      have h:=HSK.out
      split at h
      ·exact .inl ⟨by assumption,h.symm⟩
      ·exact .inr ⟨by assumption,h.symm⟩
     clear HSK
     have hsv:(s<1∨(1≤s∧s>(l3:Int)))∨(1≤s∧s≤(l3:Int)):=by omega
     rcases hsv with hsv|⟨hs1',hsl⟩
     ·have HDX:Hid (drvOf d ts (k:Int)=-1):=by show _=_;rw [HDX0.out,hDOUT.out (by rw [HL3.out];omega) hsb.1]
      rcases hpk with ⟨h7,h7e⟩|⟨h7,h7e⟩
      ·obtain rfl:pin=(kk:Int)+2:=by omega
       have e8:IntKind.i64.wrap ((kk:Int)+2 - 2)=(kk:Int):=by rw [IntWalk.i64_in _ (by omega)];omega
       have hd7:decide ((kk:Int)+2≥7)=true:=by simpa using h7
       clear h7e
       rcases hsv with hsv|⟨hs1',hsl⟩
       ·have hds:decide (s≥1)=false:=by simp;omega
        go_wp2_with (at_builtin;refine wpList_push rfl _ _ rfl (w.alloc (.cells #[.int .i64 d.W,.int .i64 d.H,.int .i64 d.T,.int .i64 d.R] 25)).heap.size A2 k c2 _ (-1) rfl HO3.out rfl (by omega) (by simp;omega) HB3.out ?_;rintro g4 c4 w4 o4 b4 - -)
        go_roundw
        case rel=>exact ⟨k+1,_,c4,by omega,by go_num,rfl,by rw [HSUC.out,HDX.out];exact o4,b4⟩
        case measure=>simp [intOf];omega
       ·have hds:decide (s≥1)=true:=by simp;omega
        have hds2:decide (s≤(l3:Int))=false:=by simp;omega
        go_wp2_with (at_builtin;refine wpList_push rfl _ _ rfl (w.alloc (.cells #[.int .i64 d.W,.int .i64 d.H,.int .i64 d.T,.int .i64 d.R] 25)).heap.size A2 k c2 _ (-1) rfl HO3.out rfl (by omega) (by simp;omega) HB3.out ?_;rintro g4 c4 w4 o4 b4 - -)
        go_roundw
        case rel=>exact ⟨k+1,_,c4,by omega,by go_num,rfl,by rw [HSUC.out,HDX.out];exact o4,b4⟩
        case measure=>simp [intOf];omega
      ·subst h7e
       have hd7:decide ((kk:Int)≥7)=false:=by simp;omega
       rcases hsv with hsv|⟨hs1',hsl⟩
       ·have hds:decide (s≥1)=false:=by simp;omega
        go_wp2_with (at_builtin;refine wpList_push rfl _ _ rfl (w.alloc (.cells #[.int .i64 d.W,.int .i64 d.H,.int .i64 d.T,.int .i64 d.R] 25)).heap.size A2 k c2 _ (-1) rfl HO3.out rfl (by omega) (by simp;omega) HB3.out ?_;rintro g4 c4 w4 o4 b4 - -)
        go_roundw
        case rel=>exact ⟨k+1,_,c4,by omega,by go_num,rfl,by rw [HSUC.out,HDX.out];exact o4,b4⟩
        case measure=>simp [intOf];omega
       ·have hds:decide (s≥1)=true:=by simp;omega
        have hds2:decide (s≤(l3:Int))=false:=by simp;omega
        go_wp2_with (at_builtin;refine wpList_push rfl _ _ rfl (w.alloc (.cells #[.int .i64 d.W,.int .i64 d.H,.int .i64 d.T,.int .i64 d.R] 25)).heap.size A2 k c2 _ (-1) rfl HO3.out rfl (by omega) (by simp;omega) HB3.out ?_;rintro g4 c4 w4 o4 b4 - -)
        go_roundw
        case rel=>exact ⟨k+1,_,c4,by omega,by go_num,rfl,by rw [HSUC.out,HDX.out];exact o4,b4⟩
        case measure=>simp [intOf];omega
     ·obtain ⟨b5,o5,rfl,hb5,hc5⟩:=HS3.out.2 (by omega)
      have hck5:=hc5 (s.toNat - 1) (by omega)
      have HDX:Hid (drvOf d ts (k:Int)=(srcs d (k:Int))[s.toNat - 1]?.getD 0):=by show _=_;rw [HDX0.out,hDIN.out hs1' (by rw [HL3.out];exact hsl)]
      generalize (srcs d (k:Int))[s.toNat - 1]?.getD 0=X at *
      have hds:decide (s≥1)=true:=by simp;omega
      have hds2:decide (s≤(l3:Int))=true:=by simp;omega
      have j0:(0:Int)≤s - 1:=by omega
      have j1:s - 1<(l3:Int):=by omega
      clear hc5
      rcases hpk with ⟨h7,h7e⟩|⟨h7,h7e⟩
      ·obtain rfl:pin=(kk:Int)+2:=by omega
       have e8:IntKind.i64.wrap ((kk:Int)+2 - 2)=(kk:Int):=by rw [IntWalk.i64_in _ (by omega)];omega
       have hd7:decide ((kk:Int)+2≥7)=true:=by simpa using h7
       clear h7e
       go_wp2_with (at_builtin;refine wpList_push rfl _ _ rfl (w.alloc (.cells #[.int .i64 d.W,.int .i64 d.H,.int .i64 d.T,.int .i64 d.R] 25)).heap.size A2 k c2 _ X rfl HO3.out rfl (by omega) (by simp;omega) HB3.out ?_;rintro g4 c4 w4 o4 b4 - -)
       go_roundw
       case rel=>exact ⟨k+1,_,c4,by omega,by go_num,rfl,by rw [HSUC.out,HDX.out];exact o4,b4⟩
       case measure=>simp [intOf];omega
      ·subst h7e
       have hd7:decide ((kk:Int)≥7)=false:=by simp;omega
       go_wp2_with (at_builtin;refine wpList_push rfl _ _ rfl (w.alloc (.cells #[.int .i64 d.W,.int .i64 d.H,.int .i64 d.T,.int .i64 d.R] 25)).heap.size A2 k c2 _ X rfl HO3.out rfl (by omega) (by simp;omega) HB3.out ?_;rintro g4 c4 w4 o4 b4 - -)
       go_roundw
       case rel=>exact ⟨k+1,_,c4,by omega,by go_num,rfl,by rw [HSUC.out,HDX.out];exact o4,b4⟩
       case measure=>simp [intOf];omega
   ·obtain ⟨hx,hsx⟩:=drvOf_dead (ts:=ts) hlive
    have HDX:=Lib.hid hx
    have hdl:decide (0<l3)=false:=by rw [hsx] at hl3;simp at hl3;simp;omega
    clear hlive hx hsx hl3
    generalize (k:Int) % perT d=pin at *
    go_wp2_with (at_builtin;refine wpList_push rfl _ _ rfl (w.alloc (.cells #[.int .i64 d.W,.int .i64 d.H,.int .i64 d.T,.int .i64 d.R] 25)).heap.size A2 k c2 _ (-1) rfl HO3.out rfl (by omega) (by simp;omega) HB3.out ?_;rintro g4 c4 w4 o4 b4 - -)
    go_roundw
    case rel=>exact ⟨k+1,_,c4,by omega,by go_num,rfl,by rw [HSUC.out,HDX.out];exact o4,b4⟩
    case measure=>simp [intOf];omega
  ·have hkN:k=N:=by omega
   have HKN:=Lib.hid hkN
   have hdk:decide ((k:Int)<(N:Int))=false:=by simp;omega
   clear hkN
   go_wp2_with fail
   refine (HRNC.out _).mono ?_
   rintro e w2 ⟨rfl,b2⟩
   have HB2:=Lib.hid (below_tr HB0.out (below_tr HB.out b2))
   have HO2:=Lib.hid (HO.out.below b2)
   clear b2 hcc hff
   go_wp2_with fail
   go_ret
   have hkn:=HKN.out
   subst hkn
   exact ⟨A2,c2,rfl,HO2.out.more (by simp),HB2.out⟩

end Go.Proofs.YtignkfhdkcgkgaaGreat
