/- The selected source of a routing node: in plain terms, and the program's DriverOf. -/
import Derived.Test.YtignkfhdkcgkgaaGreatRtS5
import Derived.Test.YtignkfhdkcgkgaaGreatStart
namespace Go.Proofs.YtignkfhdkcgkgaaGreat
set_option maxHeartbeats 4000000
set_option maxRecDepth 100000
open Go.RowKit
structure kN (d:Dev) (ts:List au):Prop where
 dev:bO d=true
 len:ts.length=tiles d
 fit:∀k,k<ts.length→wU d (ts[k]?.getD au.zero)=true
theorem nu (ws:List Int) (p n:Nat) (h:n<=16) (m:Int) (hm:(2:Int) ^ n<=m+1):inR (ag ws p n) 0 m=true:=by
 have:=Gu ws p n h
 rw [ak]
 omega
theorem zx (ws:List Int) (p:Nat):Bl (qx ws p)=true:=by
 unfold Bl qx
 simp only [Bool.and_eq_true,decide_eq_true_eq]
 refine ⟨rfl,nu _ _ _ (by omega) _ (by decide),nu _ _ _ (by omega) _ (by decide),nu _ _ _ (by omega) _ (by decide),mH fun j hj=>?_⟩
 have:j=0∨j=1∨j=2∨j=3:=by simp at hj;omega
 rcases this with rfl|rfl|rfl|rfl <;> exact nu _ _ _ (by omega) _ (by decide)
theorem qZ (ws:List Int) (m:Nat):(oU ws m).length=m:=by simp [oU]
theorem GR {d:Dev} (hd:bO d=true) (ws:List Int):wU d (oV d ws)=true:=by
 unfold wU oV
 simp only [Bool.and_eq_true,decide_eq_true_eq]
 refine ⟨hd,qZ _ _,rfl,nu _ _ _ (by omega) _ (by decide),nu _ _ _ (by omega) _ (by decide),mH fun j hj=>?_,zx _ _,zx _ _⟩
 rw [qZ] at hj
 unfold oU
 rw [List.getElem?_map,List.getElem?_range hj]
 exact nu _ _ _ (by omega) _ (by decide)
theorem kJ {d:Dev} {fs:List (List Int)} (h:az d fs=true):kN d (av d fs):=by
 obtain ⟨h1,h2,h3⟩:=aj h
 refine ⟨h1,by rw [iR,h2],fun k hk=>?_⟩
 rw [iR] at hk
 unfold av
 rw [List.getElem?_map,List.getElem?_eq_getElem hk]
 exact GR h1 _
def rC (d:Dev) (n:Int):Int:=if n % aM d≥7 then n % aM d - 2 else n % aM d
def di (ts:List au) (q:Int):au:=ts[q.toNat]?.getD au.zero
def jM (d:Dev) (ts:List au) (n:Int):Int:=(di ts (n / aM d)).mux[(rC d n).toNat]?.getD 0
def lW (s:Int) (src:List Int):Int:=if s=0∨s>(src.length:Int) then -1 else src[(s - 1).toNat]?.getD 0
def fV (d:Dev) (ts:List au) (n:Int):Int:=if bS d n=true/\¬(n % aM d=5∨n % aM d=6) then lW (jM d ts n) (jg d n) else -1
theorem vU {d:Dev} {ts:List au} {n:Int} (h:kN d ts) (hn:bZ d n=true):(n / aM d).toNat<ts.length/\zR d (di ts (n / aM d)):=by
 obtain ⟨hd,_,_,hq0,hq1,_⟩:=dX hn
 have hN:=(bT hd).1
 have hlt:(n / aM d).toNat<ts.length:=by rw [h.len];omega
 exact ⟨hlt,wV (h.fit _ hlt)⟩
theorem yQ {d:Dev} {n:Int} (hn:bZ d n=true) (_h5:¬(n % aM d=5∨n % aM d=6)):0<=rC d n/\rC d n<(iO d:Int):=by
 obtain ⟨hd,_,_,_,_,hr0,hr1⟩:=dX hn
 have hT:=aY hd
 have hm:=(mi hd).1
 unfold rC
 unfold aM at *
 split <;> omega
theorem CP {d:Dev} {ts:List au} {n:Int} (h:kN d ts) (hn:bZ d n=true) (h5:¬(n % aM d=5∨n % aM d=6)):0<=jM d ts n/\jM d ts n<=31:=by
 obtain ⟨_,hf⟩:=vU h hn
 have hs:=yQ hn h5
 unfold jM
 exact hf.muxIn _ (by rw [hf.mux];omega)
theorem uo (d:Dev) (A:Option Addr) (m c:Nat) (ts:List au) (n:Int) (w:World) (hA:RdC w w.heap.size (lH ts) (.slice A m c)) (hc:kN d ts) (hn:bZ d n=true) (h5:¬(n % aM d=5∨n % aM d=6)) :
  Calls Tryz.prog 198 #[.agg #[.int .i64 d.W,.int .i64 d.H,.int .i64 d.T,.int .i64 d.R],.slice A m c,.int .i64 n] w fun e w'=>e = .returned (.int .i64 (jM d ts n))/\Below w.heap.size w w':=by
 obtain ⟨hlt,hf⟩:=vU hc hn
 have hsi:=yQ hn h5
 have HSO:Hid (jM d ts n=(di ts (n / aM d)).mux[(rC d n).toNat]?.getD 0):=rfl
 have HSK:Hid (rC d n=if n % aM d≥7 then n % aM d - 2 else n % aM d):=rfl
 obtain ⟨hd,n0,n1,hq0,hq1,hr0,hr1⟩:=dX hn
 have hp:=bg hd
 have HN:=Hd hn
 have hml:=(mi hd).1
 obtain ⟨b,o,S,m3,p,L,l,q,rfl,hb,c0,c1,c2,c3,r0,r1⟩:=hA.tile hlt
 have hI:=RdC.ints r0
 have HMX:=Hd hf.mux
 have hIL:=hI.1
 change (di ts (n / aM d)).mux.length=m3 at hIL
 rw [hf.mux] at hIL
 have htl:=hA.tlen
 have hlen:(n / aM d).toNat<m:=by omega
 clear hA hc hn hd c1 c2 c3 r0 r1 hf
 obtain ⟨bm,om,rfl,hbm,hcm⟩:=hI.2 (by omega)
 have hcx:=hcm (rC d n).toNat (by omega)
 change w.cell? ⟨bm,om+(rC d n).toNat,none⟩=some (.int .i64 ((di ts (n / aM d)).mux[(rC d n).toNat]?.getD 0)) at hcx
 have HCX:=Hd hcx
 have HC0:=Hd c0
 clear hI hcm hcx c0
 go_enter Tryz.func198,Tryz.ntmps198
 go_wp2_with fail
 refine (fD d n _ HN.out).mono ?_
 rintro e w1 ⟨rfl,b1⟩
 have hb1:=b1.size
 simp only [World.size_alloc] at hb1
 have B1:=Hd (aA (aB (Below.refl _ _) _) b1)
 clear b1
 generalize hk:n % aM d=k at *
 generalize hkk:rC d n=kk at *
 generalize hq:n / aM d=q at *
 have HKK:=Hd hkk
 have HQ:=Hd hq
 clear hk hkk hq HN
 obtain ⟨q,rfl⟩:=Int.eq_ofNat_of_zero_le hq0
 obtain ⟨kk,rfl⟩:=Int.eq_ofNat_of_zero_le hsi.1
 have hc0:=(B1.out.cell (p:=⟨b,o+((q:Int).toNat) * 4,none⟩) hb).trans HC0.out
 have hcx:=(B1.out.cell (p:=⟨bm,om+((kk:Int).toNat),none⟩) hbm).trans HCX.out
 rw [Int.toNat_natCast] at hc0 hcx
 rw [Int.toNat_natCast] at hlen hlt
 have i0:(0:Int)<=(q:Int):=hq0
 have i1:(q:Int)<(m:Int):=by omega
 have i2:(0:Int)<=(kk:Int):=by omega
 have i3:(kk:Int)<(m3:Int):=by omega
 have hbl:b<w1.heap.size:=by omega
 have hbml:bm<w1.heap.size:=by omega
 have hso:=HSO.out
 rw [Int.toNat_natCast] at hso
 rw [←hso] at hcx
 clear hso
 generalize hsv:jM d ts n=sv at *
 have HSV:=Hd hsv
 clear hsv
 by_cases h7:k≥7
 ·have h:=HSK.out
  rw [if_pos h7] at h
  have e7:k - 2=(kk:Int):=h.symm
  obtain rfl:k=(kk:Int)+2:=by omega
  have e8:IntKind.i64.wrap ((kk:Int)+2 - 2)=(kk:Int):=by rw [IntWalk.i64_in _ (by omega)];omega
  have hd7:decide ((kk:Int)+2≥7)=true:=by simpa using h7
  clear h e7
  go_wp2_with fail
  go_ret
  exact ⟨aP HSV.out.symm,B1.out⟩
 ·have h:=HSK.out
  rw [if_neg h7] at h
  obtain rfl:(kk:Int)=k:=h
  have hd7:decide ((kk:Int)≥7)=false:=by simp;omega
  go_wp2_with fail
  go_ret
  exact ⟨aP HSV.out.symm,B1.out⟩
theorem yR (d:Dev) (A:Option Addr) (m c:Nat) (ts:List au) (n:Int) (S:Option Addr) (l cs:Nat) (src:List Int) (w:World) (hA:RdC w w.heap.size (lH ts) (.slice A m c)) (hS:bH w S l src) (hc:kN d ts) (hn:bZ d n=true) (h5:¬(n % aM d=5∨n % aM d=6)) (hl:l<=1048576) :
  Calls Tryz.prog 143 #[.agg #[.int .i64 d.W,.int .i64 d.H,.int .i64 d.T,.int .i64 d.R],.slice A m c,.int .i64 n,.slice S l cs] w fun e w'=>e = .returned (.int .i64 (lW (jM d ts n) src))/\Below w.heap.size w w':=by
 have hsb:=CP hc hn h5
 have HSEL:=Hd (fun w hA=>uo d A m c ts n w hA hc hn h5)
 have HA:=Hd hA
 have HS:=Hd hS
 have HSL:=Hd hS.1
 have HDS:Hid (lW (jM d ts n) src=if jM d ts n=0∨jM d ts n>(src.length:Int) then -1 else src[(jM d ts n - 1).toNat]?.getD 0):=rfl
 generalize jM d ts n=s at *
 clear hA hS hc hn h5
 go_enter Tryz.func143,Tryz.ntmps143
 go_wp2_with fail
 refine (HSEL.out _ (HA.out.below (aB (Below.refl _ _) _))).mono ?_
 rintro e w1 ⟨rfl,b1⟩
 have HB1:=Hd (aA (aB (Below.refl _ _) _) b1)
 have hs1:=b1.size
 simp only [World.size_alloc] at hs1
 clear b1
 by_cases h0:s=0
 ·have q0:(s==0)=true:=by simpa using h0
  have H0:=Hd h0
  clear h0
  go_wp2_with fail
  go_ret
  exact ⟨aP (by rw [HDS.out,if_pos (.inl H0.out)]),HB1.out⟩
 ·have q0:(s==0)=false:=by simpa using h0
  by_cases h1:s>(l:Int)
  ·have q1:decide (s>(l:Int))=true:=by simpa using h1
   clear h0
   go_wp2_with fail
   go_ret
   exact ⟨aP (by rw [HDS.out,if_pos (.inr (by rw [HSL.out];exact h1))]),HB1.out⟩
  ·have q1:decide (s>(l:Int))=false:=by simp;omega
   obtain ⟨b,o,rfl,hb,hcell⟩:=(HS.out.below HB1.out).2 (by omega)
   have hck:=hcell (s.toNat - 1) (by omega)
   have HD:Hid (lW s src=src[s.toNat - 1]?.getD 0):=by show _=_;rw [HDS.out,if_neg (by rw [HSL.out];omega),show (s - 1).toNat=s.toNat - 1 by omega]
   have e4:IntKind.i64.wrap (s - 1)=s - 1:=IntWalk.i64_in _ (by omega)
   have i0:(0:Int)<=s - 1:=by omega
   have i1:s - 1<(l:Int):=by omega
   clear hcell h0 HDS
   go_wp2_with fail
   go_ret
   exact ⟨aP HD.out.symm,HB1.out⟩
theorem sM (d:Dev) (n:Int) (w:World) :
  Calls Tryz.prog 142 #[.agg #[.int .i64 d.W,.int .i64 d.H,.int .i64 d.T,.int .i64 d.R],.int .i64 n] w fun e w'=>e = .returned (.bool (bS d n && (decide (n % aM d=5) || decide (n % aM d=6))))/\Below w.heap.size w w':=by
 go_enter Tryz.func142,Tryz.ntmps142
 go_wp2_with fail
 cases hno:bS d n with
 | false =>
  have HNO:=Hd hno
  refine (gQ d n _).mono ?_
  rw [hno]
  rintro e w1 ⟨rfl,b1⟩
  have HB1:=Hd (aA (aB (Below.refl _ _) _) b1)
  clear b1 hno
  go_wp2_with fail
  go_ret
  exact ⟨aH (by rw [HNO.out];rfl),HB1.out⟩
 | true =>
  have hni:bZ d n=true:=by unfold bS at hno;rw [Bool.and_eq_true] at hno;exact hno.1
  have HNI:=Hd hni
  have HNO:=Hd hno
  refine (gQ d n _).mono ?_
  rw [hno]
  rintro e w1 ⟨rfl,b1⟩
  have HB1:=Hd b1
  have hs1:=b1.size
  simp only [World.size_alloc] at hs1
  obtain ⟨hcc,hff⟩:=aO b1
  clear b1 hno hni
  go_wp2_with fail
  refine (fD d n _ HNI.out).mono ?_
  rintro e w2 ⟨rfl,b2⟩
  have HB2:=Hd (aA (aB (Below.refl _ _) _) (aA HB1.out b2))
  clear b2 hcc hff
  generalize hk:n % aM d=k at *
  have HK:=Hd hk
  clear hk
  by_cases h5:k=5
  ·have q:(k==5)=true:=by simpa using h5
   have H5:=Hd h5
   clear h5
   go_wp2_with fail
   go_ret
   exact ⟨aH (by rw [HNO.out,HK.out,H5.out];rfl),HB2.out⟩
  ·have q:(k==5)=false:=by simpa using h5
   by_cases h6:k=6
   ·have q6:(k==6)=true:=by simpa using h6
    have H6:=Hd h6
    clear h5 h6
    go_wp2_with fail
    go_ret
    exact ⟨aH (by rw [HNO.out,HK.out,H6.out];rfl),HB2.out⟩
   ·have q6:(k==6)=false:=by simpa using h6
    have H5:=Hd h5
    have H6:=Hd h6
    clear h5 h6
    go_wp2_with fail
    go_ret
    exact ⟨aH (by rw [HNO.out,HK.out];simp [H5.out,H6.out]),HB2.out⟩
theorem Dp (d:Dev) (n:Int):(jg d n).length<=34:=by
 unfold jg
 split
 ·rename_i h
  have hno:=h.1
  unfold bS at hno
  rw [Bool.and_eq_true] at hno
  have hT:=aY (dX hno.1).1
  have h1:=xB (iP d (n / aM d) (n % aM d))
  have hK:∀(r:Int) (k:Nat),(fZ d (n / aM d) (n % aM d) r (k:Int) (bR (k:Int)).toNat).length<=2:=by
   intro r k
   have hw:(bR (k:Int)).toNat<=2:=by unfold bR;omega
   have hS:∀s:Int,(kR d (n / aM d) (n % aM d) r (k:Int) s).length<=1:=by
    intro s;unfold kR kr;split <;> (try split) <;> simp
   have:∀s:Nat,(fZ d (n / aM d) (n % aM d) r (k:Int) s).length<=s:=by
    intro s
    induction s with
    | zero=>simp [fZ]
    | succ s ih=>rw [mI,List.length_append];have:=hS ((s:Int)+1);omega
   have:=this (bR (k:Int)).toNat
   omega
  have hR:∀(r:Int) (k:Nat),(gZ d (n / aM d) (n % aM d) r k).length<=2 * k:=by
   intro r k
   induction k with
   | zero=>simp [gZ]
   | succ k ih=>rw [mJ,List.length_append];have:=hK r k;omega
  have hA:∀r:Nat,(fF d (n / aM d) (n % aM d) r).length<=8 * r:=by
   intro r
   induction r with
   | zero=>simp [fF]
   | succ r ih=>rw [mK,List.length_append];have:=hR (r:Int) d.T.toNat;omega
  have:=hA 4
  have ho:(gL d (n / aM d)).length<=2:=by unfold gL;split <;> simp
  have hI:(iP d (n / aM d) (n % aM d)).length<=34:=by
   unfold iP
   rw [List.length_append]
   split
   ·omega
   ·simp;omega
  omega
 ·simp
theorem iQ {d:Dev} {n:Int}:bZ d n=true↔bO d=true/\0<=n/\n<ai d:=by
 unfold bZ
 simp only [Bool.and_eq_true,decide_eq_true_eq]
theorem FP {w:World} {d:Dev} {A:Option Addr} {m c:Nat} {ts:List au} {n:Int} (hA:RdC w w.heap.size (lH ts) (.slice A m c)) (hc:kN d ts) (hn:bZ d n=true) (h5:¬(n % aM d=5∨n % aM d=6)) :
  ∃b o bm om m3 p,A=some ⟨b,o,none⟩/\b<w.heap.size/\w.cell? ⟨b,o+(n / aM d).toNat * 4,none⟩=some (.slice (some ⟨bm,om,none⟩) m3 p)/\bm<w.heap.size/\w.cell? ⟨bm,om+(rC d n).toNat,none⟩=some (.int .i64 (jM d ts n))/\(n / aM d).toNat<m/\(rC d n).toNat<m3:=by
 obtain ⟨hlt,hf⟩:=vU hc hn
 have hsi:=yQ hn h5
 obtain ⟨b,o,S,m3,p,L,l,q,rfl,hb,c0,c1,c2,c3,r0,r1⟩:=hA.tile hlt
 have hI:=RdC.ints r0
 have hIL:=hI.1
 change (di ts (n / aM d)).mux.length=m3 at hIL
 rw [hf.mux] at hIL
 have htl:=hA.tlen
 obtain ⟨bm,om,rfl,hbm,hcm⟩:=hI.2 (by omega)
 have hcx:=hcm (rC d n).toNat (by omega)
 exact ⟨b,o,bm,om,m3,p,rfl,hb,c0,hbm,hcx,by omega,by omega⟩
def mR (d:Dev) (ts:List au) (k:Nat):List Int:=(List.range k).map fun (j:Nat)=>fV d ts (j:Int)
theorem vV (d:Dev) (ts:List au) (k:Nat):mR d ts (k+1)=mR d ts k++[fV d ts (k:Int)]:=by simp [mR,List.range_succ]
theorem jd (d:Dev) (ts:List au) (k:Nat):(mR d ts k).length=k:=by simp [mR]
theorem vW {d:Dev} {ts:List au} {n:Int} (h:bS d n=true) (h5:¬(n % aM d=5∨n % aM d=6)):fV d ts n=lW (jM d ts n) (jg d n):=by unfold fV;rw [if_pos ⟨h,h5⟩]
theorem rD {d:Dev} {ts:List au} {n:Int} (h:¬(bS d n=true/\¬(n % aM d=5∨n % aM d=6))):fV d ts n=-1/\jg d n=[]:=by
 unfold fV jg
 rw [if_neg h,if_neg h]
 exact ⟨rfl,rfl⟩
theorem CQ {s:Int} {src:List Int} (h:s<1∨s>(src.length:Int)) (h0:0<=s):lW s src=-1:=by unfold lW;rw [if_pos (by omega)]
theorem EX {s:Int} {src:List Int} (h:1<=s) (h1:s<=(src.length:Int)):lW s src=src[s.toNat - 1]?.getD 0:=by unfold lW;rw [if_neg (by omega),show (s - 1).toNat=s.toNat - 1 by omega]
theorem qa (d:Dev) (n:Int) (w:World) (h:bS d n=false∨(bS d n=true/\(n % aM d=5∨n % aM d=6))) :
  Calls Tryz.prog 137 #[.agg #[.int .i64 d.W,.int .i64 d.H,.int .i64 d.T,.int .i64 d.R],.int .i64 n] w fun e w'=>∃A m c,e = .returned (.slice A m c)/\Own w.heap.size w' A m c (jg d n)/\Below w.heap.size w w':=by
 have HB0:=Hd (aB (Below.refl w.heap.size w) (.cells #[.int .i64 d.W,.int .i64 d.H,.int .i64 d.T,.int .i64 d.R] 25))
 rcases h with hno|⟨hno,h5⟩
 ·have HS:=Hd (EI hno)
  have HNO:Hid (∀w,Calls Tryz.prog 184 #[.agg #[.int .i64 d.W,.int .i64 d.H,.int .i64 d.T,.int .i64 d.R],.int .i64 n] w fun e w'=>e = .returned (.bool false)/\Below w.heap.size w w'):=fun w=>by have h:=gU d n w;rwa [hno] at h
  clear hno
  go_enter Tryz.func137,Tryz.ntmps137
  go_wp2_with fail
  refine (HNO.out _).mono ?_
  rintro e w1 ⟨rfl,b1⟩
  have N1:=Hd ((Own.newAt (w:=(w.alloc (.cells #[.int .i64 d.W,.int .i64 d.H,.int .i64 d.T,.int .i64 d.R] 25))) (base:=(w.alloc (.cells #[.int .i64 d.W,.int .i64 d.H,.int .i64 d.T,.int .i64 d.R] 25)).heap.size) (g:=w.heap.size+1) (by simp) (by simp)).below b1)
  have HB1:=Hd (aA (aB HB0.out _) b1)
  clear b1
  go_wp2_with fail
  go_ret
  exact ⟨_,0,0,rfl,by rw [HS.out];exact N1.out.more (by simp),HB1.out⟩
 ·have HS:=Hd (BZ h5)
  have hni:bZ d n=true:=by unfold bS at hno;rw [Bool.and_eq_true] at hno;exact hno.1
  obtain ⟨hd,n0,n1,hq0,hq1,hr0,hr1⟩:=dX hni
  have hT:=aY hd
  have hp:=bg hd
  have hWH:=dL hd
  have HNO:Hid (∀w,Calls Tryz.prog 184 #[.agg #[.int .i64 d.W,.int .i64 d.H,.int .i64 d.T,.int .i64 d.R],.int .i64 n] w fun e w'=>e = .returned (.bool true)/\Below w.heap.size w w'):=fun w=>by have h:=gU d n w;rwa [hno] at h
  have e0:¬aM d=0:=by omega
  have e1:n.tmod (aM d)=n % aM d:=Int.tmod_eq_emod_of_nonneg n0
  have e2:IntKind.i64.wrap (n.tdiv (aM d))=n / aM d:=IntWalk.i64_quo _ _ ⟨n0,by omega,by omega⟩
  clear hno hni hd
  go_enter Tryz.func137,Tryz.ntmps137
  go_wp2_with fail
  refine (HNO.out _).mono ?_
  rintro e w1 ⟨rfl,b1⟩
  have N1:=Hd ((Own.newAt (w:=(w.alloc (.cells #[.int .i64 d.W,.int .i64 d.H,.int .i64 d.T,.int .i64 d.R] 25))) (base:=(w.alloc (.cells #[.int .i64 d.W,.int .i64 d.H,.int .i64 d.T,.int .i64 d.R] 25)).heap.size) (g:=w.heap.size+1) (by simp) (by simp)).below b1)
  have HB1:=Hd (aA (aB (Below.refl _ _) _) b1:Below (w.alloc (.cells #[.int .i64 d.W,.int .i64 d.H,.int .i64 d.T,.int .i64 d.R] 25)).heap.size (w.alloc (.cells #[.int .i64 d.W,.int .i64 d.H,.int .i64 d.T,.int .i64 d.R] 25)) w1)
  have hs1:=b1.size
  simp only [World.size_alloc] at hs1
  clear b1
  obtain ⟨hcc,hff⟩:=aO HB1.out
  go_wp2_with fail
  refine (dB d _ (by omega) (by omega)).mono ?_
  rintro e w2 ⟨rfl,b2⟩
  have HB2:=Hd (aA HB1.out b2)
  have N2:=Hd (N1.out.below b2)
  have hs2:=b2.size
  clear b2 hcc hff
  obtain ⟨hcc,hff⟩:=aO HB2.out
  go_wp2_with fail
  refine (dB d _ (by omega) (by omega)).mono ?_
  rintro e w3 ⟨rfl,b3⟩
  have HB3:=Hd (aA HB0.out (aA HB2.out b3))
  have N3:=Hd (N2.out.below b3)
  clear b3 hcc hff
  generalize n % aM d=pin at *
  have h2:((pin==5)=true)∨((pin==5)=false/\(pin==6)=true):=by
   rcases h5 with h|h
   ·exact .inl (by simpa using h)
   ·exact .inr ⟨by simp;omega,by simpa using h⟩
  clear h5
  rcases h2 with q5|⟨q5,q6⟩
  all_goals
   go_wp2_with fail
   go_ret
   exact ⟨_,0,0,rfl,by rw [HS.out];exact N3.out.more (by simp),HB3.out⟩
theorem yS (d:Dev) (n:Int) (w:World) :
  Calls Tryz.prog 137 #[.agg #[.int .i64 d.W,.int .i64 d.H,.int .i64 d.T,.int .i64 d.R],.int .i64 n] w fun e w'=>∃A m c,e = .returned (.slice A m c)/\Own w.heap.size w' A m c (jg d n)/\Below w.heap.size w w':=by
 cases hno:bS d n with
 | false=>exact qa d n w (.inl hno)
 | true =>
  by_cases h5:n % aM d=5∨n % aM d=6
  ·exact qa d n w (.inr ⟨hno,h5⟩)
  ·rcases Int.lt_or_le (n % aM d) 5 with h|h
   ·exact zA d n w hno h
   ·exact xD d n w hno (by omega)
theorem pV (d:Dev) (A:Option Addr) (m c:Nat) (ts:List au) (w:World) (hA:RdC w w.heap.size (lH ts) (.slice A m c)) (hc:kN d ts) :
  Calls Tryz.prog 66 #[.agg #[.int .i64 d.W,.int .i64 d.H,.int .i64 d.T,.int .i64 d.R],.slice A m c] w fun e w'=>∃A' c',e = .returned (.slice A' (ai d).toNat c')/\Own w.heap.size w' A' (ai d).toNat c' (mR d ts (ai d).toNat)/\Below w.heap.size w w':=by
 have HB0:=Hd (aB (Below.refl w.heap.size w) (.cells #[.int .i64 d.W,.int .i64 d.H,.int .i64 d.T,.int .i64 d.R] 25))
 have HA:=Hd hA
 have HC:=Hd hc
 have hT:=aY hc.dev
 have hp:=bg hc.dev
 have hWH:=dL hc.dev
 have hnb:=cK hc.dev
 have HD:=Hd hc.dev
 have HRN:=Hd (y9 hc.dev)
 obtain ⟨N,hN⟩:∃N:Nat,ai d=(N:Int):=⟨(ai d).toNat,by omega⟩
 have HN:=Hd hN
 have HNI:Hid (∀k:Nat,k<N→bZ d (k:Int)=true):=by
  intro k hk
  exact qN.2 ⟨by omega,by rw [y9 hc.dev,hN];omega⟩
 have HRNC:Hid (∀w,Calls Tryz.prog 67 #[.agg #[.int .i64 d.W,.int .i64 d.H,.int .i64 d.T,.int .i64 d.R]] w fun e w'=>e = .returned (.int .i64 (N:Int))/\Below w.heap.size w w'):=fun w=>by have h:=jE d w;rwa [y9 hc.dev,hN] at h
 have hNN:(ai d).toNat=N:=by omega
 rw [hN] at hnb
 rw [hNN]
 clear hA hc hN hNN
 go_enter Tryz.func66,Tryz.ntmps66
 go_wp2_with fail
 have hcl0:((w.alloc (.cells #[.int .i64 d.W,.int .i64 d.H,.int .i64 d.T,.int .i64 d.R] 25)).alloc (.cells #[] 3)).cell? ⟨w.heap.size,0,none⟩=some (.int .i64 d.W):=aC (aR _ (aL w _)) rfl
 refine (dB d _ (by omega) (by omega)).mono ?_
 rintro e w1 ⟨rfl,b1⟩
 have N1:=Hd ((Own.newAt (w:=(w.alloc (.cells #[.int .i64 d.W,.int .i64 d.H,.int .i64 d.T,.int .i64 d.R] 25))) (base:=(w.alloc (.cells #[.int .i64 d.W,.int .i64 d.H,.int .i64 d.T,.int .i64 d.R] 25)).heap.size) (g:=w.heap.size+1) (by simp) (by simp)).below b1)
 have HB1:=Hd (aA (aB (Below.refl _ _) _) b1:Below (w.alloc (.cells #[.int .i64 d.W,.int .i64 d.H,.int .i64 d.T,.int .i64 d.R] 25)).heap.size (w.alloc (.cells #[.int .i64 d.W,.int .i64 d.H,.int .i64 d.T,.int .i64 d.R] 25)) w1)
 clear b1 hcl0
 have hpe0:¬aM d=0:=by omega
 go_wp2_with fail
 go_loopw [5,7] (fun v i wr=>∃(k:Nat) (A2:Option Addr) (c2:Nat),k<=N/\i = .int .i64 k/\v = .slice A2 k c2/\Own (w.alloc (.cells #[.int .i64 d.W,.int .i64 d.H,.int .i64 d.T,.int .i64 d.R] 25)).heap.size wr A2 k c2 (mR d ts k)/\Below (w.alloc (.cells #[.int .i64 d.W,.int .i64 d.H,.int .i64 d.T,.int .i64 d.R] 25)).heap.size (w.alloc (.cells #[.int .i64 d.W,.int .i64 d.H,.int .i64 d.T,.int .i64 d.R] 25)) wr) (fun _ i _=>N - (intOf i).toNat)
 case atStart=>exact ⟨0,_,0,by omega,rfl,rfl,by simpa [mR] using N1.out,HB1.out⟩
 case round =>
  obtain ⟨k,A2,c2,hk,rfl,rfl,ho,hb⟩:=hrel
  have HO:=Hd ho
  have HB:=Hd hb
  have hs:=hb.size
  simp only [World.size_alloc] at hs
  obtain ⟨hcc,hff⟩:=aO hb
  clear ho hb
  by_cases hlt:k<N
  ·have hdk:decide ((k:Int)<(N:Int))=true:=by simp;omega
   have hni:=HNI.out k hlt
   have HNIK:=Hd hni
   obtain ⟨_,n0,n1,hq0,hq1,hr0,hr1⟩:=dX hni
   have HSUC:=Hd (vV d ts k)
   clear hni
   go_wp2_with fail
   refine (HRNC.out _).mono ?_
   rintro e w2 ⟨rfl,b2⟩
   have HB2:=Hd (aA HB.out b2)
   have HO2:=Hd (HO.out.below b2)
   have hs2:=b2.size
   clear b2 hcc hff
   obtain ⟨hcc,hff⟩:=aO HB2.out
   go_wp2_with fail
   refine (yS d (k:Int) _).mono ?_
   rintro e w3 ⟨A3,l3,c3,rfl,o3,b3⟩
   have HB3:=Hd (aA HB2.out b3)
   have HO3:=Hd (HO2.out.below b3)
   have HS3:=Hd o3.ints
   have hl3:=o3.len
   have hle:=Dp d (k:Int)
   have hs3:=b3.size
   have HA3:=Hd (HA.out.below (aA HB0.out HB3.out))
   clear b3 o3 hcc hff
   have e1:((k:Int)).tmod (aM d)=(k:Int) % aM d:=Int.tmod_eq_emod_of_nonneg n0
   have e2:IntKind.i64.wrap (((k:Int)).tdiv (aM d))=(k:Int) / aM d:=IntWalk.i64_quo _ _ ⟨n0,by omega,by omega⟩
   by_cases hlive:bS d (k:Int)=true/\¬((k:Int) % aM d=5∨(k:Int) % aM d=6)
   ·have HDX0:=Hd (vW (ts:=ts) hlive.1 hlive.2)
    have hsb:=CP HC.out HNIK.out hlive.2
    obtain ⟨b,o,bm,om,m3,p,rfl,hbl,ca,hbm,cb,hqm,hkm⟩:=FP HA3.out HC.out HNIK.out hlive.2
    have hsi:=yQ HNIK.out hlive.2
    have HSK:Hid (rC d (k:Int)=if (k:Int) % aM d≥7 then (k:Int) % aM d - 2 else (k:Int) % aM d):=rfl
    have hDIN:=Hd (fun h h1=>EX (s:=jM d ts (k:Int)) (src:=jg d (k:Int)) h h1)
    have hDOUT:=Hd (fun h h1=>CQ (s:=jM d ts (k:Int)) (src:=jg d (k:Int)) h h1)
    have HL3:=Hd hl3
    rw [hl3] at hle
    clear hlive hl3
    generalize jM d ts (k:Int)=s at *
    generalize (k:Int) % aM d=pin at *
    generalize hqq:(k:Int) / aM d=q at *
    generalize hkk:rC d (k:Int)=kk at *
    clear hkk
    obtain ⟨q,rfl⟩:=Int.eq_ofNat_of_zero_le hq0
    obtain ⟨kk,rfl⟩:=Int.eq_ofNat_of_zero_le hsi.1
    rw [Int.toNat_natCast] at ca cb hqm hkm
    by_cases hl0:l3=0
    ·have HDX:Hid (fV d ts (k:Int)=-1):=by show _=_;rw [HDX0.out,hDOUT.out (by rw [HL3.out,hl0];omega) hsb.1]
     have hdl:decide (0<l3)=false:=by simp;omega
     clear hl0 ca cb
     go_wp2_with (at_builtin;refine ax rfl _ _ rfl (w.alloc (.cells #[.int .i64 d.W,.int .i64 d.H,.int .i64 d.T,.int .i64 d.R] 25)).heap.size A2 k c2 _ (-1) rfl HO3.out rfl (by omega) (by simp;omega) HB3.out ?_;rintro g4 c4 w4 o4 b4 - -)
     go_roundw
     case rel=>exact ⟨k+1,_,c4,by omega,by go_num,rfl,by rw [HSUC.out,HDX.out];exact o4,b4⟩
     case measure=>simp [intOf];omega
    ·have hdl:decide (0<l3)=true:=by simp;omega
     have i0:(0:Int)<=(q:Int):=by omega
     have i1:(q:Int)<(m:Int):=by omega
     have i2:(0:Int)<=(kk:Int):=by omega
     have i3:(kk:Int)<(m3:Int):=by omega
     have hpk:(pin≥7/\pin - 2=(kk:Int))∨(¬pin≥7/\pin=(kk:Int)):=by
      have h:=HSK.out
      split at h
      ·exact .inl ⟨by assumption,h.symm⟩
      ·exact .inr ⟨by assumption,h.symm⟩
     clear HSK
     have hsv:(s<1∨(1<=s/\s>(l3:Int)))∨(1<=s/\s<=(l3:Int)):=by omega
     rcases hsv with hsv|⟨hs1',hsl⟩
     ·have HDX:Hid (fV d ts (k:Int)=-1):=by show _=_;rw [HDX0.out,hDOUT.out (by rw [HL3.out];omega) hsb.1]
      rcases hpk with ⟨h7,h7e⟩|⟨h7,h7e⟩
      ·obtain rfl:pin=(kk:Int)+2:=by omega
       have e8:IntKind.i64.wrap ((kk:Int)+2 - 2)=(kk:Int):=by rw [IntWalk.i64_in _ (by omega)];omega
       have hd7:decide ((kk:Int)+2≥7)=true:=by simpa using h7
       clear h7e
       rcases hsv with hsv|⟨hs1',hsl⟩
       ·have hds:decide (s≥1)=false:=by simp;omega
        go_wp2_with (at_builtin;refine ax rfl _ _ rfl (w.alloc (.cells #[.int .i64 d.W,.int .i64 d.H,.int .i64 d.T,.int .i64 d.R] 25)).heap.size A2 k c2 _ (-1) rfl HO3.out rfl (by omega) (by simp;omega) HB3.out ?_;rintro g4 c4 w4 o4 b4 - -)
        go_roundw
        case rel=>exact ⟨k+1,_,c4,by omega,by go_num,rfl,by rw [HSUC.out,HDX.out];exact o4,b4⟩
        case measure=>simp [intOf];omega
       ·have hds:decide (s≥1)=true:=by simp;omega
        have hds2:decide (s<=(l3:Int))=false:=by simp;omega
        go_wp2_with (at_builtin;refine ax rfl _ _ rfl (w.alloc (.cells #[.int .i64 d.W,.int .i64 d.H,.int .i64 d.T,.int .i64 d.R] 25)).heap.size A2 k c2 _ (-1) rfl HO3.out rfl (by omega) (by simp;omega) HB3.out ?_;rintro g4 c4 w4 o4 b4 - -)
        go_roundw
        case rel=>exact ⟨k+1,_,c4,by omega,by go_num,rfl,by rw [HSUC.out,HDX.out];exact o4,b4⟩
        case measure=>simp [intOf];omega
      ·subst h7e
       have hd7:decide ((kk:Int)≥7)=false:=by simp;omega
       rcases hsv with hsv|⟨hs1',hsl⟩
       ·have hds:decide (s≥1)=false:=by simp;omega
        go_wp2_with (at_builtin;refine ax rfl _ _ rfl (w.alloc (.cells #[.int .i64 d.W,.int .i64 d.H,.int .i64 d.T,.int .i64 d.R] 25)).heap.size A2 k c2 _ (-1) rfl HO3.out rfl (by omega) (by simp;omega) HB3.out ?_;rintro g4 c4 w4 o4 b4 - -)
        go_roundw
        case rel=>exact ⟨k+1,_,c4,by omega,by go_num,rfl,by rw [HSUC.out,HDX.out];exact o4,b4⟩
        case measure=>simp [intOf];omega
       ·have hds:decide (s≥1)=true:=by simp;omega
        have hds2:decide (s<=(l3:Int))=false:=by simp;omega
        go_wp2_with (at_builtin;refine ax rfl _ _ rfl (w.alloc (.cells #[.int .i64 d.W,.int .i64 d.H,.int .i64 d.T,.int .i64 d.R] 25)).heap.size A2 k c2 _ (-1) rfl HO3.out rfl (by omega) (by simp;omega) HB3.out ?_;rintro g4 c4 w4 o4 b4 - -)
        go_roundw
        case rel=>exact ⟨k+1,_,c4,by omega,by go_num,rfl,by rw [HSUC.out,HDX.out];exact o4,b4⟩
        case measure=>simp [intOf];omega
     ·obtain ⟨b5,o5,rfl,hb5,hc5⟩:=HS3.out.2 (by omega)
      have hck5:=hc5 (s.toNat - 1) (by omega)
      have HDX:Hid (fV d ts (k:Int)=(jg d (k:Int))[s.toNat - 1]?.getD 0):=by show _=_;rw [HDX0.out,hDIN.out hs1' (by rw [HL3.out];exact hsl)]
      generalize (jg d (k:Int))[s.toNat - 1]?.getD 0=X at *
      have hds:decide (s≥1)=true:=by simp;omega
      have hds2:decide (s<=(l3:Int))=true:=by simp;omega
      have j0:(0:Int)<=s - 1:=by omega
      have j1:s - 1<(l3:Int):=by omega
      clear hc5
      rcases hpk with ⟨h7,h7e⟩|⟨h7,h7e⟩
      ·obtain rfl:pin=(kk:Int)+2:=by omega
       have e8:IntKind.i64.wrap ((kk:Int)+2 - 2)=(kk:Int):=by rw [IntWalk.i64_in _ (by omega)];omega
       have hd7:decide ((kk:Int)+2≥7)=true:=by simpa using h7
       clear h7e
       go_wp2_with (at_builtin;refine ax rfl _ _ rfl (w.alloc (.cells #[.int .i64 d.W,.int .i64 d.H,.int .i64 d.T,.int .i64 d.R] 25)).heap.size A2 k c2 _ X rfl HO3.out rfl (by omega) (by simp;omega) HB3.out ?_;rintro g4 c4 w4 o4 b4 - -)
       go_roundw
       case rel=>exact ⟨k+1,_,c4,by omega,by go_num,rfl,by rw [HSUC.out,HDX.out];exact o4,b4⟩
       case measure=>simp [intOf];omega
      ·subst h7e
       have hd7:decide ((kk:Int)≥7)=false:=by simp;omega
       go_wp2_with (at_builtin;refine ax rfl _ _ rfl (w.alloc (.cells #[.int .i64 d.W,.int .i64 d.H,.int .i64 d.T,.int .i64 d.R] 25)).heap.size A2 k c2 _ X rfl HO3.out rfl (by omega) (by simp;omega) HB3.out ?_;rintro g4 c4 w4 o4 b4 - -)
       go_roundw
       case rel=>exact ⟨k+1,_,c4,by omega,by go_num,rfl,by rw [HSUC.out,HDX.out];exact o4,b4⟩
       case measure=>simp [intOf];omega
   ·obtain ⟨hx,hsx⟩:=rD (ts:=ts) hlive
    have HDX:=Hd hx
    have hdl:decide (0<l3)=false:=by rw [hsx] at hl3;simp at hl3;simp;omega
    clear hlive hx hsx hl3
    generalize (k:Int) % aM d=pin at *
    go_wp2_with (at_builtin;refine ax rfl _ _ rfl (w.alloc (.cells #[.int .i64 d.W,.int .i64 d.H,.int .i64 d.T,.int .i64 d.R] 25)).heap.size A2 k c2 _ (-1) rfl HO3.out rfl (by omega) (by simp;omega) HB3.out ?_;rintro g4 c4 w4 o4 b4 - -)
    go_roundw
    case rel=>exact ⟨k+1,_,c4,by omega,by go_num,rfl,by rw [HSUC.out,HDX.out];exact o4,b4⟩
    case measure=>simp [intOf];omega
  ·have hkN:k=N:=by omega
   have HKN:=Hd hkN
   have hdk:decide ((k:Int)<(N:Int))=false:=by simp;omega
   clear hkN
   go_wp2_with fail
   refine (HRNC.out _).mono ?_
   rintro e w2 ⟨rfl,b2⟩
   have HB2:=Hd (aA HB0.out (aA HB.out b2))
   have HO2:=Hd (HO.out.below b2)
   clear b2 hcc hff
   go_wp2_with fail
   go_ret
   have hkn:=HKN.out
   subst hkn
   exact ⟨A2,c2,rfl,HO2.out.more (by simp),HB2.out⟩
end Go.Proofs.YtignkfhdkcgkgaaGreat
