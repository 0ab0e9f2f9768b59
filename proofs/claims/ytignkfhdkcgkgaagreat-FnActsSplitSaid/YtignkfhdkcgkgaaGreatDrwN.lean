/- Writing tiles into words: bits put one behind the other: the reference. -/
import Derived.Test.YtignkfhdkcgkgaaGreatLaw
import Derived.Test.YtignkfhdkcgkgaaGreatVal
namespace Go.Proofs.YtignkfhdkcgkgaaGreat
set_option maxHeartbeats 4000000
set_option maxRecDepth 100000
open Go.RowKit Cw
def qQ (xs:List Nat):List Int:=xs.map fun (x:Nat)=>(x:Int)
theorem Df (xs ys:List Nat):qQ (xs++ys)=qQ xs++qQ ys:=by simp [qQ]
theorem Gg {n k:Nat} {x:Nat} (h:k<n):(ib n (x:Int)).take (k+1)=(ib n (x:Int)).take k++[bit x k]:=by
 rw [List.take_add_one,Dt h,Int.toNat_natCast]
 rfl
theorem jv (base:Nat) (A:Option Addr) (n c:Nat) (bs:List Nat) (x cnt:Nat) (W w:World) (hown:Own base w A n c (qQ bs)) (hB:Below base W w) (hbw:base<=w.heap.size) (hc:cnt<=16) (hx:x<65536) (hn:n<=1000000) :
  Calls Tryz.prog 221 #[.slice A n c,.int .i64 (x:Int),.int .i64 (cnt:Int)] w fun e w'=>∃A' c',e = .returned (.slice A' (n+cnt) c')/\Own base w' A' (n+cnt) c' (qQ (bs++ib cnt (x:Int)))/\Below base W w'/\w.heap.size<=w'.heap.size:=by
 have HO:=Hd hown
 have HB:=Hd hB
 clear hown hB
 go_enter Tryz.func221,Tryz.ntmps221
 go_wp2_with fail
 go_loopw [0,7] (fun v i wr=>∃(k:Nat) (A':Option Addr) (c':Nat),k<=cnt/\i = .int .i64 k/\v = .slice A' (n+k) c'/\Own base wr A' (n+k) c' (qQ (bs++(ib cnt (x:Int)).take k))/\Below base W wr/\w.heap.size<=wr.heap.size) (fun _ i _=>cnt - (intOf i).toNat)
 case atStart=>exact ⟨0,A,c,Nat.zero_le _,rfl,rfl,by simpa using HO.out,HB.out,Nat.le_refl _⟩
 case round =>
  obtain ⟨k,A',c',hk,rfl,rfl,ho,hb,hs⟩:=hrel
  have HO2:=Hd ho
  have HB2:=Hd hb
  clear ho hb
  by_cases hlt:k<cnt
  ·have hdk:decide ((k:Int)<(cnt:Int))=true:=by simp;omega
   have HT:=Hd (Gg (x:=x) hlt)
   have HSN:Hid (qQ [bit x k]=[bits .and .i64 ((x:Int) / 2 ^ k) 1]):=by show _=_;rw [jR x k (by omega)];rfl
   go_wp2_with (at_builtin;refine av rfl _ _ rfl base A' (n+k) c' (qQ (bs++(ib cnt (x:Int)).take k)) _ rfl HO2.out rfl (by omega) (by omega) HB2.out ?_;rintro g9 cap w9 o9 b9 hgr hat)
   go_roundw
   case rel=>exact ⟨k+1,_,_,by omega,by go_num,rfl,by rw [HT.out,←List.append_assoc,Df,HSN.out];exact o9,b9,by have:=hgr.size;simp only [World.size_alloc] at this;omega⟩
   case measure=>simp [intOf];omega
  ·have hkc:k=cnt:=by omega
   subst hkc
   have hdk:decide ((k:Int)<(k:Int))=false:=by simp
   go_wp2_with fail
   go_ret
   exact ⟨_,_,rfl,by have h:=HO2.out;rwa [List.take_of_length_le (by rw [mD];exact Nat.le_refl _)] at h,HB2.out,hs⟩
theorem dK {w:World} {g:Nat} {v0 v1 v2 v3:Value} {t:TypeId} (h:w.heap[g]?=some (.cells #[v0,v1,v2,v3] t (0,0))):w.cell? ⟨g,0,none⟩=some v0/\w.cell? ⟨g,1,none⟩=some v1/\w.cell? ⟨g,2,none⟩=some v2/\w.cell? ⟨g,3,none⟩=some v3:=⟨aC h rfl,aC h rfl,aC h rfl,aC h rfl⟩
theorem uk (d:Dev) (t:aZ) (MA:Option Addr) (mn mc:Nat) (LA:Option Addr) (ln lc:Nat) (w:World) (hM:bN w MA mn t.mux) (hL:RdC w w.heap.size (nR t.les) (.slice LA ln lc)) (hk:iD d t=true) :
  Calls Tryz.prog 220 #[.agg #[.int .i64 d.W,.int .i64 d.H,.int .i64 d.T,.int .i64 d.R],.agg #[.slice MA mn mc,.slice LA ln lc,.int .i64 t.pad,.int .i64 t.ram]] w fun e w'=>e = .returned (.bool true)/\Below w.heap.size w w':=by
 have hf:=nO hk
 have hd:=hf.dev
 have hmn:(mn:Int)=5+4 * d.T:=by have:=hM.1;have:=hf.mux;have:=(gY hd).1;omega
 obtain ⟨e0,e1,hles,hl0,hl1⟩:=hf.les
 have hln:ln=2:=by have:=hL.elen;rw [hles] at this;exact this.symm
 subst hln
 have h1:inR t.pad 0 3=true:=aa.2 hf.pad
 have h2:inR t.ram 0 31=true:=aa.2 hf.ram
 have HD:=Hd hd
 have HM:=Hd hM
 have HL:=Hd hL
 have HF:=Hd hf
 have HLS:=Hd hles
 have q1:((mn:Int) != 5+4 * d.T)=false:=by simp [hmn]
 have HMN:=Hd hmn
 have HDO:=Hd (fun w'=>by have h:=dJ d w';rw [hd] at h;exact h)
 have HMC:=Hd (fun w'=>oG d w' hd)
 clear hM hL hk hf hles hmn hd
 go_enter Tryz.func220,Tryz.ntmps220
 go_wp2_with fail
 have X0:=Hd (aW (.cells #[.slice MA mn mc,.slice LA 2 lc,.int .i64 t.pad,.int .i64 t.ram] 103) (aK w (.cells #[.int .i64 d.W,.int .i64 d.H,.int .i64 d.T,.int .i64 d.R] 25)))
 have X1:=Hd (ax (w:=w.alloc (.cells #[.int .i64 d.W,.int .i64 d.H,.int .i64 d.T,.int .i64 d.R] 25)) (o := .cells #[.slice MA mn mc,.slice LA 2 lc,.int .i64 t.pad,.int .i64 t.ram] 103) (g:=w.heap.size+1) (by simp))
 have HB0:=Hd (aB (aB (Below.refl w.heap.size w) (.cells #[.int .i64 d.W,.int .i64 d.H,.int .i64 d.T,.int .i64 d.R] 25)) (.cells #[.slice MA mn mc,.slice LA 2 lc,.int .i64 t.pad,.int .i64 t.ram] 103))
 generalize hW:(w.alloc (.cells #[.int .i64 d.W,.int .i64 d.H,.int .i64 d.T,.int .i64 d.R] 25)).alloc (.cells #[.slice MA mn mc,.slice LA 2 lc,.int .i64 t.pad,.int .i64 t.ram] 103)=w0 at *
 clear hW
 have hD:=(Below.refl w0.heap.size w0).drew
 have hl0':=aG X0.out
 have hl1':=aG X1.out
 obtain ⟨z0,z1,z2,z3⟩:=dK X0.out
 obtain ⟨y0,y1,y2,y3⟩:=dK X1.out
 go_region_held3 (fun w'=>Below w0.heap.size w0 w'/\∀b o,b<w0.heap.size→w'.cell? ⟨b,o,none⟩=w0.cell? ⟨b,o,none⟩)
  (first|exact ⟨hD,(aQ hD).1⟩)
  (first
   | (go_at_call 138;refine (HDO.out _).mono ?_;rintro e w5 ⟨rfl,b5⟩;replace hD:=aA hD b5;clear b5)
   | (go_at_call 207;refine (HMC.out _).mono ?_;rintro e w6 ⟨rfl,b6⟩;replace hD:=aA hD b6;clear b6)
   | (go_at_call 175;refine (aX _ _ _ _).mono ?_;rintro e' w' ⟨rfl,rfl⟩;first|rw [h1]|rw [h2]))
 have HW6:=Hd (aA HB0.out hD)
 have X06:=Hd (aJ hD X0.out)
 have X16:=Hd (aJ hD X1.out)
 have HLE:Hid (∀e:Nat,e<2→Dv (t.les[e]?.getD Le.zero)):=by
  intro e he
  rw [HLS.out]
  have:e=0∨e=1:=by omega
  rcases this with rfl|rfl
  ·exact nP hl0
  ·exact nP hl1
 have HML:Hid (t.mux.length=mn):=HM.out.1
 have hmb:mn<=21:=by have h1:=HF.out.mux;have h2:=(gY HD.out).2.2.1;have h3:=HML.out;omega
 clear z0 z1 z2 z3 y0 y1 y2 y3 hl0' hl1' X0 X1 HB0 h1 h2 q1 hl0 hl1 hD
 obtain ⟨y0,y1,y2,y3⟩:=dK X16.out
 go_wp2_with fail
 go_loopw [5] (fun i wr=>∃k:Nat,k<=mn/\i = .int .i64 k/\w6=wr) (fun i _=>mn - (intOf i).toNat)
 case atStart=>exact ⟨0,Nat.zero_le _,rfl,rfl⟩
 case round =>
  obtain ⟨k,hk,rfl,rfl⟩:=hrel
  by_cases hlt:k<mn
  ·have hdk:decide ((k:Int)<(mn:Int))=true:=by simp;omega
   obtain ⟨b,o,rfl,hb,hc⟩:=HM.out.2 (by omega)
   have hck:=hc k hlt
   rw [←HW6.out.cell (p:=⟨b,o+k,none⟩) hb] at hck
   have hin:inR (t.mux[k]?.getD 0) 0 31=true:=aa.2 (HF.out.muxIn k (by rw [HML.out];exact hlt))
   have i0:(0:Int)<=(k:Int):=by omega
   have i1:(k:Int)<(mn:Int):=by omega
   clear hc
   generalize t.mux[k]?.getD 0=x at *
   go_wp2_with (go_at_call 175;refine (aX _ _ _ _).mono ?_;rintro e' w' ⟨rfl,hq⟩;subst hq;rw [hin])
   go_roundw
   case rel=>exact ⟨k+1,by omega,by go_num,trivial⟩
   case measure=>simp [intOf];omega
  ·have hkn:k=mn:=by omega
   subst hkn
   have hdk:decide ((k:Int)<(k:Int))=false:=by simp
   clear hlt hk
   go_wp2_with fail
   go_loopw [6] (fun i wr=>∃e:Nat,e<=2/\i = .int .i64 e/\Below w6.heap.size w6 wr) (fun i _=>2 - (intOf i).toNat)
   case atStart=>exact ⟨0,by omega,rfl,Below.refl _ _⟩
   case round =>
    obtain ⟨e,he,rfl,hb⟩:=hrel
    have HB:=Hd hb
    have HWR:=Hd (aA HW6.out hb)
    have X1R:=Hd (aJ hb X16.out)
    have hl1:=aG X1R.out
    clear hb y0 y1 y2 y3
    obtain ⟨y0,y1,y2,y3⟩:=dK X1R.out
    by_cases hlt:e<2
    ·have hde:decide ((e:Int)<2)=true:=by simp;omega
     have hle:=HLE.out e hlt
     obtain ⟨bl,ol,S4,m4,p4,rfl,hbl,d0,d1,d2,d3,r4⟩:=HL.out.le (k:=e) (by rw [HLS.out];exact hlt)
     have hS:=RdC.ints r4
     have hS4:m4=4:=by have:=hS.1;obtain ⟨a,b,c,d',h,_⟩:=hle.sel;rw [h] at this;exact this.symm
     subst hS4
     have h1:inR (t.les[e]?.getD Le.zero).mask 0 65535=true:=aa.2 hle.mask
     have h2:inR (t.les[e]?.getD Le.zero).flop 0 1=true:=aa.2 hle.flop
     have h3:inR (t.les[e]?.getD Le.zero).init 0 1=true:=aa.2 hle.init
     have hsi:=(wU hle).2
     have HSI:=Hd hsi
     have HSE:=Hd hS
     obtain ⟨hcc,hff⟩:=aQ HWR.out
     have j0:(0:Int)<=(e:Int):=by omega
     have j1:(e:Int)<2:=by omega
     clear hle hS r4 hsi
     generalize t.les[e]?.getD Le.zero=le at *
     go_wp2_with (go_at_call 175;refine (aX _ _ _ _).mono ?_;rintro e' w' ⟨rfl,hq⟩;subst hq;first|rw [h1]|rw [h2]|rw [h3])
     obtain ⟨bs,os,rfl,hbs,hcs⟩:=HSE.out.2 (by omega)
     have hbsr:bs<wr.heap.size:=by have:=HWR.out.size;omega
     have hw0:w.heap.size+1<wr.heap.size:=hl1
     have HBX:=Hd (aB (Below.refl wr.heap.size wr) (.cells #[.slice (some ⟨bs,os,none⟩) 4 p4,.int .i64 le.mask,.int .i64 le.flop,.int .i64 le.init] 107))
     go_loopw [8] (fun i wx=>∃j:Nat,j<=4/\i = .int .i64 j/\(wr.alloc (.cells #[.slice (some ⟨bs,os,none⟩) 4 p4,.int .i64 le.mask,.int .i64 le.flop,.int .i64 le.init] 107))=wx) (fun i _=>4 - (intOf i).toNat)
     case atStart=>exact ⟨0,by omega,rfl,rfl⟩
     case round =>
      obtain ⟨j,hj,rfl,rfl⟩:=hrel
      by_cases hjl:j<4
      ·have hdj:decide ((j:Int)<4)=true:=by simp;omega
       have hck:=hcs j hjl
       have hin:inR (le.sel[j]?.getD 0) 0 7=true:=aa.2 (HSI.out j hjl)
       have m0:(0:Int)<=(j:Int):=by omega
       have m1:(j:Int)<4:=by omega
       clear hcs
       generalize le.sel[j]?.getD 0=x at *
       go_wp2_with (go_at_call 175;refine (aX _ _ _ _).mono ?_;rintro e' w' ⟨rfl,rfl⟩;rw [hin])
       go_roundw
       case rel=>exact ⟨j+1,by omega,by go_num,trivial⟩
       case measure=>simp [intOf];omega
      ·have hj4:j=4:=by omega
       subst hj4
       have hdj:decide (((4:Nat):Int)<4)=false:=by decide
       clear hjl hj
       go_wp2_with fail
       go_roundw
       case rel=>exact ⟨e+1,by omega,by go_num,aA HB.out HBX.out⟩
       case measure=>simp [intOf];omega
    ·have he2:e=2:=by omega
     subst he2
     have hde:decide (((2:Nat):Int)<2)=false:=by decide
     clear hlt he
     go_wp2_with fail
     go_ret
     exact ⟨rfl,HWR.out⟩
def qM (N:Nat) (bs:List Nat) (k:Nat):List Int:=(iB N bs k).map fun (x:Nat)=>(x:Int)
theorem ul (N:Nat) (bs:List Nat) (k:Nat):(qM N bs k).length=N:=by simp [qM,sN]
theorem Gh (N:Nat) (bs:List Nat) (k j:Nat):(qM N bs k)[j]?.getD 0=(((iB N bs k)[j]?.getD 0:Nat):Int):=by
 simp only [qM,List.getElem?_map]
 cases (iB N bs k)[j]? <;> rfl
theorem Eh (N:Nat) (bs:List Nat) (k:Nat):qM N bs (k+1)=(qM N bs k).set (k / 16) ((((iB N bs k)[k / 16]?.getD 0+(bs[k]?.getD 0) * 2 ^ (k % 16):Nat)):Int):=by
 simp only [qM,iB,List.map_set]
theorem vQ {α β:Type} {f:α→List β} {xs:List α} {k:Nat} {x:α} (h:xs[k]?=some x):(xs.take (k+1)).flatMap f=(xs.take k).flatMap f++f x:=by
 rw [List.take_add_one,h]
 simp
theorem Gi {a b k:Nat} (ha:a<2 ^ k) (hb:b<=1) (hk:k<=15):wrap64 ((a:Int)+wrap64 ((b:Int) * 2 ^ k))=((a+b * 2 ^ k:Nat):Int):=by
 rw [qW hb (by omega)]
 have hp:2 ^ k<=2 ^ 15:=Nat.pow_le_pow_right (by omega) hk
 have h2:b * 2 ^ k<=1 * 2 ^ k:=Nat.mul_le_mul_right _ hb
 rw [←Int.natCast_add]
 exact IntWalk.wrap64_in _ (by omega)
theorem rA {x:Int} {M:Int} (h:0<=x/\x<=M):∃n:Nat,x=(n:Int)/\(n:Int)<=M:=by
 obtain ⟨n,rfl⟩:=Int.eq_ofNat_of_zero_le h.1
 exact ⟨n,rfl,h.2⟩
theorem wL (d:Dev) (t:aZ) (MA:Option Addr) (mn mc:Nat) (LA:Option Addr) (ln lc:Nat) (w:World) (hM:bN w MA mn t.mux) (hL:RdC w w.heap.size (nR t.les) (.slice LA ln lc)) (hk:iD d t=true) :
  Calls Tryz.prog 180 #[.agg #[.int .i64 d.W,.int .i64 d.H,.int .i64 d.T,.int .i64 d.R],.agg #[.slice MA mn mc,.slice LA ln lc,.int .i64 t.pad,.int .i64 t.ram]] w fun e w'=>∃A' n' c',e = .returned (.tuple #[.slice A' n' c',.bool true])/\Own w.heap.size w' A' n' c' (tN d t)/\Below w.heap.size w w':=by
 have hf:=nO hk
 have hd:=hf.dev
 obtain ⟨e0,e1,hles,hl0,hl1⟩:=hf.les
 have hln:ln=2:=by have:=hL.elen;rw [hles] at this;exact this.symm
 subst hln
 have HB0:=Hd (aB (aB (Below.refl w.heap.size w) (.cells #[.int .i64 d.W,.int .i64 d.H,.int .i64 d.T,.int .i64 d.R] 25)) (.cells #[.slice MA mn mc,.slice LA 2 lc,.int .i64 t.pad,.int .i64 t.ram] 103))
 have X0:=Hd (aW (.cells #[.slice MA mn mc,.slice LA 2 lc,.int .i64 t.pad,.int .i64 t.ram] 103) (aK w (.cells #[.int .i64 d.W,.int .i64 d.H,.int .i64 d.T,.int .i64 d.R] 25)))
 have X1:=Hd (ax (w:=w.alloc (.cells #[.int .i64 d.W,.int .i64 d.H,.int .i64 d.T,.int .i64 d.R] 25)) (o := .cells #[.slice MA mn mc,.slice LA 2 lc,.int .i64 t.pad,.int .i64 t.ram] 103) (g:=w.heap.size+1) (by simp))
 have HTC:=Hd (uk d t MA mn mc LA 2 lc ((w.alloc (.cells #[.int .i64 d.W,.int .i64 d.H,.int .i64 d.T,.int .i64 d.R] 25)).alloc (.cells #[.slice MA mn mc,.slice LA 2 lc,.int .i64 t.pad,.int .i64 t.ram] 103)) (hM.below HB0.out) (hL.below HB0.out) hk)
 have HM:=Hd hM
 have HL:=Hd hL
 have HF:=Hd hf
 have HK:=Hd hk
 have HD:=Hd hd
 have HML:Hid (t.mux.length=mn):=hM.1
 have hmb:mn<=21:=by have h1:=hf.mux;have h2:=(gY hd).2.2.1;have h3:=HML.out;omega
 have HMN:Hid (mn=fK d):=by show _=_;rw [←HML.out];exact hf.mux
 have HLS:Hid (t.les.length=2):=by show _=_;rw [hles];rfl
 have HLE:Hid (∀e:Nat,e<2→Dv (t.les[e]?.getD Le.zero)):=by
  intro e he
  rw [hles]
  have:e=0∨e=1:=by omega
  rcases this with rfl|rfl
  ·exact nP hl0
  ·exact nP hl1
 clear hM hL hk hf hles hl0 hl1 hd
 go_enter Tryz.func180,Tryz.ntmps180
 go_wp2_with fail
 refine HTC.out.mono ?_
 rintro e w1 ⟨rfl,b1⟩
 have HW1:=Hd (aA HB0.out b1)
 have hs1:=b1.size
 simp only [World.size_alloc] at hs1
 replace X0:=Hd (aJ b1 X0.out)
 replace X1:=Hd (aJ b1 X1.out)
 clear b1
 obtain ⟨y0,y1,y2,y3⟩:=dK X1.out
 go_wp2_with fail
 have O0:=Hd (Own.new0 (w:=w1) (base:=w1.heap.size) (Nat.le_refl _))
 have B0:=Hd (aB (Below.refl w1.heap.size w1) (.cells #[] 3))
 go_loopw [6,7] (fun v i wr=>∃(k:Nat) (A':Option Addr) (c':Nat),k<=mn/\i = .int .i64 k/\v = .slice A' (5 * k) c'/\Own w1.heap.size wr A' (5 * k) c' (qQ ((t.mux.take k).flatMap (ib 5)))/\Below w1.heap.size w1 wr) (fun _ i _=>mn - (intOf i).toNat)
 case atStart=>exact ⟨0,_,0,Nat.zero_le _,rfl,rfl,O0.out,B0.out⟩
 case round =>
  obtain ⟨k,A',c',hk,rfl,rfl,ho,hb⟩:=hrel
  have HO:=Hd ho
  have HB:=Hd hb
  have hsr:=hb.size
  have HWR:=Hd (aA HW1.out hb)
  have X1R:=Hd (aJ hb X1.out)
  clear ho hb y0 y1 y2 y3
  obtain ⟨y0,y1,y2,y3⟩:=dK X1R.out
  by_cases hlt:k<mn
  ·have hdk:decide ((k:Int)<(mn:Int))=true:=by simp;omega
   obtain ⟨b,o,rfl,hb,hc⟩:=HM.out.2 (by omega)
   have hck:=hc k hlt
   rw [←HWR.out.cell (p:=⟨b,o+k,none⟩) hb] at hck
   obtain ⟨x,hx,hx2⟩:=rA (HF.out.muxIn k (by rw [HML.out];exact hlt))
   have HSN:=Hd (vQ (f:=ib 5) (getD_some 0 (by rw [HML.out];exact hlt):t.mux[k]?=some (t.mux[k]?.getD 0)))
   have i0:(0:Int)<=(k:Int):=by omega
   have i1:(k:Int)<(mn:Int):=by omega
   rw [hx] at hck HSN
   clear hc hx
   go_wp2_with fail
   refine (jv w1.heap.size A' (5 * k) c' ((t.mux.take k).flatMap (ib 5)) x 5 w1 _ HO.out HB.out (by omega) (by omega) (by omega) (by omega)).mono ?_
   rintro e w5 ⟨A5,c5,rfl,o5,b5,s5⟩
   have O5:=Hd o5
   have B5:=Hd b5
   clear o5 b5
   go_wp2_with fail
   go_roundw
   case rel=>exact ⟨k+1,A5,c5,by omega,by go_num,by rw [show 5 * (k+1)=5 * k+5 by omega],by rw [HSN.out,show 5 * (k+1)=5 * k+5 by omega];exact O5.out,B5.out⟩
   case measure=>simp [intOf];omega
  ·have hkn:k=mn:=by omega
   subst hkn
   have hdk:decide ((k:Int)<(k:Int))=false:=by simp
   have HO2:Hid (Own w1.heap.size wr A' (5 * k) c' (qQ (t.mux.flatMap (ib 5)))):=by
    have h:=HO.out
    rwa [List.take_of_length_le (by rw [HML.out];exact Nat.le_refl _)] at h
   clear hlt hk
   go_wp2_with fail
   generalize hB0:t.mux.flatMap (ib 5)=bs0 at *
   have HBS0:=Hd hB0
   clear hB0 y0 y1 y2 y3
   have HBR:=HB
   go_loopw [6,8] (fun v i wx=>∃(e:Nat) (A':Option Addr) (c':Nat),e<=2/\i = .int .i64 e/\v = .slice A' (5 * k+30 * e) c'/\Own w1.heap.size wx A' (5 * k+30 * e) c' (qQ (bs0++(t.les.take e).flatMap Le.bits))/\Below w1.heap.size w1 wx) (fun _ i _=>2 - (intOf i).toNat)
   case atStart=>exact ⟨0,A',c',by omega,rfl,rfl,by simpa using HO2.out,HBR.out⟩
   case round =>
    obtain ⟨e,A2,c2,he,rfl,rfl,ho,hb⟩:=hrel
    have HO3:=Hd ho
    have HB3:=Hd hb
    clear ho hb
    by_cases hlt:e<2
    ·have hde:decide ((e:Int)<2)=true:=by simp;omega
     have hle:=HLE.out e hlt
     obtain ⟨bl,ol,S4,m4,p4,rfl,hbl,d0,d1,d2,d3,r4⟩:=HL.out.le (k:=e) (by rw [HLS.out];exact hlt)
     have hS:=RdC.ints r4
     have hS4:m4=4:=by have:=hS.1;obtain ⟨a,b,c,d',h,_⟩:=hle.sel;rw [h] at this;exact this.symm
     subst hS4
     have HSL:Hid ((t.les[e]?.getD Le.zero).sel.length=4):=hS.1
     have HSN:=Hd (vQ (f:=Le.bits) (getD_some Le.zero (by rw [HLS.out];exact hlt):t.les[e]?=some (t.les[e]?.getD Le.zero)))
     have hsi:=(wU hle).2
     have HSI:=Hd hsi
     have HSE:=Hd hS
     have HLF:=Hd hle
     have j0:(0:Int)<=(e:Int):=by omega
     have j1:(e:Int)<2:=by omega
     have D0:=Hd d0
     have D1:=Hd d1
     have D2:=Hd d2
     have D3:=Hd d3
     clear hle hS r4 hsi d0 d1 d2 d3
     generalize t.les[e]?.getD Le.zero=le at *
     generalize hBe:bs0++(t.les.take e).flatMap Le.bits=bse at *
     have HBE:=Hd hBe
     clear hBe
     go_wp2_with fail
     go_loopw [6,9] (fun v i wx=>∃(j:Nat) (A':Option Addr) (c':Nat),j<=4/\i = .int .i64 j/\v = .slice A' (5 * k+30 * e+3 * j) c'/\Own w1.heap.size wx A' (5 * k+30 * e+3 * j) c' (qQ (bse++(le.sel.take j).flatMap (ib 3)))/\Below w1.heap.size w1 wx) (fun _ i _=>4 - (intOf i).toNat)
     case atStart=>exact ⟨0,A2,c2,by omega,rfl,rfl,by simpa using HO3.out,HB3.out⟩
     case round =>
      obtain ⟨j,A3,c3,hj,rfl,rfl,ho,hb⟩:=hrel
      have HO4:=Hd ho
      have HB4:=Hd hb
      have hsr4:=hb.size
      have X1R:=Hd (aJ hb X1.out)
      obtain ⟨y0,y1,y2,y3⟩:=dK X1R.out
      obtain ⟨hcc,hff⟩:=aQ (aA HW1.out hb)
      have hblr:bl<wr.heap.size:=by omega
      clear ho hb
      by_cases hjl:j<4
      ·have hdj:decide ((j:Int)<4)=true:=by simp;omega
       obtain ⟨bs,os,rfl,hbs,hcs⟩:=HSE.out.2 (by omega)
       have hck:=hcs j hjl
       have hbsr:bs<wr.heap.size:=by omega
       obtain ⟨x,hx,hx2⟩:=rA (HSI.out j hjl)
       have HSM:=Hd (vQ (f:=ib 3) (getD_some 0 (by rw [HSL.out];exact hjl):le.sel[j]?=some (le.sel[j]?.getD 0)))
       have m0:(0:Int)<=(j:Int):=by omega
       have m1:(j:Int)<4:=by omega
       have d0:=D0.out
       rw [hx] at hck HSM
       clear hcs hx
       go_wp2_with fail
       refine (jv w1.heap.size A3 (5 * k+30 * e+3 * j) c3 (bse++(le.sel.take j).flatMap (ib 3)) x 3 w1 _ HO4.out HB4.out (by omega) (by omega) (by omega) (by omega)).mono ?_
       rintro e5 w5 ⟨A5,c5,rfl,o5,b5,s5⟩
       have O5:=Hd o5
       have B5:=Hd b5
       clear o5 b5 hcc hff
       go_wp2_with fail
       go_roundw
       case rel=>exact ⟨j+1,A5,c5,by omega,by go_num,by rw [show 5 * k+30 * e+3 * (j+1)=5 * k+30 * e+3 * j+3 by omega],by rw [HSM.out,←List.append_assoc,show 5 * k+30 * e+3 * (j+1)=5 * k+30 * e+3 * j+3 by omega];exact O5.out,B5.out⟩
       case measure=>simp [intOf];omega
      ·have hj4:j=4:=by omega
       subst hj4
       have hdj:decide (((4:Nat):Int)<4)=false:=by decide
       have HO5:Hid (Own w1.heap.size wr A3 (5 * k+30 * e+12) c3 (qQ (bse++le.sel.flatMap (ib 3)))):=by
        have h:=HO4.out
        rwa [List.take_of_length_le (by rw [HSL.out];exact Nat.le_refl _)] at h
       obtain ⟨mk,hmk,hmk2⟩:=rA HLF.out.mask
       obtain ⟨fl,hfl,hfl2⟩:=rA HLF.out.flop
       obtain ⟨ini,hini,hini2⟩:=rA HLF.out.init
       have d1:=D1.out
       have d2:=D2.out
       have d3:=D3.out
       rw [hmk] at d1
       rw [hfl] at d2
       rw [hini] at d3
       have HLB:Hid (((bse++le.sel.flatMap (ib 3))++ib 16 (mk:Int))++ib 1 (fl:Int)++ib 1 (ini:Int)=bse++le.bits):=by
        show _=_
        rw [Le.bits,hmk,hfl,hini]
        simp only [List.append_assoc]
       clear hjl hj hmk hfl hini
       go_wp2_with fail
       refine (jv w1.heap.size A3 (5 * k+30 * e+12) c3 (bse++le.sel.flatMap (ib 3)) mk 16 w1 _ HO5.out HB4.out (by omega) (by omega) (by omega) (by omega)).mono ?_
       rintro e5 w5 ⟨A5,c5,rfl,o5,b5,s5⟩
       have O5:=Hd o5
       have B5:=Hd b5
       have hw5:w.heap.size+1<w5.heap.size:=by omega
       have X5:=Hd (aJ B5.out X1.out)
       obtain ⟨hcc5,hff5⟩:=aQ (aA HW1.out B5.out)
       clear o5 b5
       obtain ⟨u0,u1,u2,u3⟩:=dK X5.out
       clear hcc hff y0 y1 y2 y3
       go_wp2_with fail
       refine (jv w1.heap.size A5 (5 * k+30 * e+12+16) c5 ((bse++le.sel.flatMap (ib 3))++ib 16 (mk:Int)) fl 1 w1 _ O5.out B5.out (by omega) (by omega) (by omega) (by omega)).mono ?_
       rintro e6 w6 ⟨A6,c6,rfl,o6,b6,s6⟩
       have O6:=Hd o6
       have B6:=Hd b6
       have hw6:w.heap.size+1<w6.heap.size:=by omega
       have X6:=Hd (aJ B6.out X1.out)
       obtain ⟨hcc6,hff6⟩:=aQ (aA HW1.out B6.out)
       clear o6 b6
       clear hcc5 hff5 u0 u1 u2 u3
       obtain ⟨u0,u1,u2,u3⟩:=dK X6.out
       go_wp2_with fail
       refine (jv w1.heap.size A6 (5 * k+30 * e+12+16+1) c6 (((bse++le.sel.flatMap (ib 3))++ib 16 (mk:Int))++ib 1 (fl:Int)) ini 1 w1 _ O6.out B6.out (by omega) (by omega) (by omega) (by omega)).mono ?_
       rintro e7 w7 ⟨A7,c7,rfl,o7,b7,s7⟩
       have O7:=Hd o7
       have B7:=Hd b7
       have hw7:w.heap.size+1<w7.heap.size:=by omega
       have X7:=Hd (aJ B7.out X1.out)
       obtain ⟨hcc7,hff7⟩:=aQ (aA HW1.out B7.out)
       clear o7 b7
       clear hcc6 hff6 u0 u1 u2 u3 hcc7 hff7
       go_wp2_with fail
       go_roundw
       case rel=>exact ⟨e+1,A7,c7,by omega,by go_num,by rw [show 5 * k+30 * (e+1)=5 * k+30 * e+12+16+1+1 by omega],by rw [HSN.out,←List.append_assoc,HBE.out,show 5 * k+30 * (e+1)=5 * k+30 * e+12+16+1+1 by omega,←HLB.out];exact O7.out,B7.out⟩
       case measure=>simp [intOf];omega
    ·have he2:e=2:=by omega
     subst he2
     have hde:decide (((2:Nat):Int)<2)=false:=by decide
     have HO8:Hid (Own w1.heap.size wr A2 (5 * k+60) c2 (qQ (bs0++t.les.flatMap Le.bits))):=by
      have h:=HO3.out
      rwa [List.take_of_length_le (by rw [HLS.out];exact Nat.le_refl _)] at h
     have X1R:=Hd (aJ HB3.out X1.out)
     have hsr8:=HB3.out.size
     have hwr8:w.heap.size+1<wr.heap.size:=by omega
     obtain ⟨pd,hpd,hpd2⟩:=rA HF.out.pad
     obtain ⟨rm,hrm,hrm2⟩:=rA HF.out.ram
     obtain ⟨y0,y1,y2,y3⟩:=dK X1R.out
     have HTB:Hid (((bs0++t.les.flatMap Le.bits)++ib 2 (pd:Int))++ib 5 (rm:Int)=t.bits):=by
      show _=_
      rw [aZ.bits,HBS0.out,hpd,hrm]
      simp only [List.append_assoc]
     have HTL:Hid (t.bits.length=5 * k+67):=by show _=_;rw [vR HK.out,←HMN.out]
     rw [hpd] at y2
     clear hlt he hpd
     go_wp2_with fail
     refine (jv w1.heap.size A2 (5 * k+60) c2 (bs0++t.les.flatMap Le.bits) pd 2 w1 _ HO8.out HB3.out (by omega) (by omega) (by omega) (by omega)).mono ?_
     rintro e5 w5 ⟨A5,c5,rfl,o5,b5,s5⟩
     have O5:=Hd o5
     have B5:=Hd b5
     have X5:=Hd (aJ B5.out X1.out)
     have hw5:w.heap.size+1<w5.heap.size:=by omega
     clear o5 b5
     clear y0 y1 y2 y3
     obtain ⟨y0,y1,y2,y3⟩:=dK X5.out
     rw [hrm] at y3
     clear hrm
     go_wp2_with fail
     refine (jv w1.heap.size A5 (5 * k+60+2) c5 ((bs0++t.les.flatMap Le.bits)++ib 2 (pd:Int)) rm 5 w1 _ O5.out B5.out (by omega) (by omega) (by omega) (by omega)).mono ?_
     rintro e6 w6 ⟨A6,c6,rfl,o6,b6,s6⟩
     have O6:=Hd o6
     have B6:=Hd b6
     have X6:=Hd (aJ B6.out X1.out)
     have hw6:w.heap.size+1<w6.heap.size:=by omega
     clear o6 b6
     clear y0 y1 y2 y3
     have HO6:Hid (Own w1.heap.size w6 A6 (5 * k+67) c6 (qQ t.bits)):=by
      have h:=O6.out
      rw [HTB.out] at h
      exact h
     have X06:=Hd (aJ B6.out X0.out)
     obtain ⟨z0,z1,z2,z3⟩:=dK X06.out
     have hw60:w.heap.size<w6.heap.size:=by omega
     go_wp2_with fail
     have hfw:=iq d w6 HD.out
     obtain ⟨N,hN⟩:∃N:Nat,fwI d=(N:Int):=⟨(fwI d).toNat,by have:=(jG HD.out).1;omega⟩
     have hNb:5 * k+67<=16 * N/\N<=11:=by
      have h1:=gY HD.out
      have h2:=HMN.out
      have h3:(fwI d).toNat=N:=by omega
      rw [h3] at h1
      omega
     have HENC:Hid (tN d t=qM N t.bits (5 * k+67)):=by
      show _=_
      rw [tN,HTL.out,show (fwI d).toNat=N by omega]
      rfl
     rw [hN] at hfw
     clear hN
     refine hfw.mono ?_
     rintro e7 w7 ⟨rfl,b7⟩
     have B7:=Hd (aA B6.out b7)
     have HO7:=Hd (HO6.out.below b7)
     have hs7:=b7.size
     obtain ⟨i0,hi,hz0,hz1,hz2⟩:=info_parts fE
     have hmk:=fun W=>cO (P:=Tryz.prog) 27 3 i0 _ Tryz.underlying27 hi hz0 .i64 .i64 N N (Nat.le_refl _) (by rw [hz2];omega) (by omega) W
     rw [hz1,Nat.mul_one,show (Value.int .i64 0).cells=#[Value.int .i64 0] from rfl,iy] at hmk
     clear hi hz0 hz1 hz2 b7 hfw z0 z1 z2 z3
     go_wp2_with fail
     clear hmk
     obtain ⟨gb,curb,rfl,hgb,hgb2,-⟩:=HO7.out.block (by omega)
     have hrep:qM N t.bits 0=List.replicate N 0:=by simp [qM,iB]
     have H0:Hid ((w7.alloc (.cells (arr (List.replicate N 0)) 3)).heap[w7.heap.size]?=some (.cells (arr (qM N t.bits 0)) 3 (0,0))):=by rw [hrep];exact aK w7 _
     have hb01:=aZ.bits01 t
     clear hrep
     generalize t.bits=tb at *
     generalize hL:5 * k+67=L at *
     have HLL:=Hd hL
     have hLb:L<=176:=by omega
     clear hL
     go_loopw [11] (fun i wx=>∃a:Nat,a<=L/\i = .int .i64 a/\wx.heap[w7.heap.size]?=some (.cells (arr (qM N tb a)) 3 (0,0))/\Below w7.heap.size w7 wx) (fun i _=>L - (intOf i).toNat)
     case atStart=>exact ⟨0,by omega,rfl,H0.out,aB (Below.refl _ _) _⟩
     case round =>
      obtain ⟨a,ha,rfl,hg,hb⟩:=hrel
      have HG:=Hd hg
      have HB:=Hd hb
      by_cases hal:a<L
      ·have hda:decide ((a:Int)<(L:Int))=true:=by simp;omega
       obtain ⟨zb,yb⟩:=(HO7.out.below hb).cellAt hal
       have hv:(qQ tb)[a]?.getD 0=((tb[a]?.getD 0:Nat):Int):=by
        simp only [qQ,List.getElem?_map]
        cases tb[a]? <;> rfl
       rw [hv] at zb
       have zg:=aC (k:=a / 16) hg (dz (by rw [ul];omega))
       have yg:=aF hg (a / 16)
       rw [Gh] at zg
       have hgbw:gb<wr.heap.size:=by have:=hb.size;omega
       have hne:gb≠w7.heap.size:=by omega
       have hP:=Es (N:=N) hb01 a
       have hb1:=hb01 a
       have HPS:=Hd (Eh N tb a)
       have e1:(a:Int).tmod 16=((a % 16:Nat):Int):=by rw [Int.tmod_eq_emod_of_nonneg (by omega)];omega
       have e2:IntKind.i64.wrap ((a:Int).tdiv 16)=((a / 16:Nat):Int):=by rw [IntWalk.i64_quo _ _ ⟨by omega,by omega,by omega⟩];omega
       have f1:IntKind.i64.wrap ((a:Int) / 16)=(a:Int) / 16:=IntWalk.i64_in _ (by omega)
       have q0:(0:Int)<=((a / 16:Nat):Int):=by omega
       have q1:((a / 16:Nat):Int)<(N:Int):=by omega
       have p0:(0:Int)<=(a:Int) / 16:=by omega
       have p1:(a:Int) / 16<(N:Int):=by omega
       have p2:(0:Int)<=(a:Int) % 16:=by omega
       have p3:(a:Int) % 16<16:=by omega
       have i0:(0:Int)<=(a:Int):=by omega
       have i1:(a:Int)<(L:Int):=by omega
       have zg2:wr.cell? ⟨w7.heap.size,((a:Int) / 16).toNat,none⟩=some (.int .i64 (((iB N tb a)[a / 16]?.getD 0:Nat):Int)):=by rw [show ((a:Int) / 16).toNat=a / 16 by omega];exact zg
       have yg2:wr.frozen? ⟨w7.heap.size,((a:Int) / 16).toNat,none⟩=false:=by rw [show ((a:Int) / 16).toNat=a / 16 by omega];exact yg
       clear hg hb hv
       generalize (iB N tb a)[a / 16]?.getD 0=P at *
       generalize tb[a]?.getD 0=bt at *
       have HVAL:=Hd (Gi hP hb1 (show a % 16<=15 by omega))
       clear hP hb1
       go_wp2_with fail
       go_region_with (fail)
       all_goals
        go_wp2_with fail
        go_roundw
        case rel =>
         refine ⟨a+1,by omega,by go_num,?_,?_⟩
         ·rw [HPS.out,←iJ,←HVAL.out]
          repeat (first|exact bI HG.out (a / 16) _|exact bI (iY HG.out) (a / 16) _|refine iY ?_)
         ·repeat (first|exact HB.out|refine Below.setCell ?_ (by simp) _|refine Below.drew ?_)
        case measure=>simp [intOf];omega
      ·have haL:a=L:=by omega
       subst haL
       have hda:decide ((a:Int)<(a:Int))=false:=by simp
       have HFIN:Hid (Own w.heap.size wr (some ⟨w7.heap.size,0,none⟩) N N (tN d t)):=by
        show Own _ _ _ _ _ _
        rw [HENC.out]
        exact Own.arr HG.out (by have:=(aA HW1.out B7.out).size;omega) (by unfold maxLen;omega) (ul _ _ _)
       go_wp2_with fail
       go_ret2
       exact ⟨_,_,_,rfl,HFIN.out,aA HW1.out (aA B7.out HB.out)⟩
theorem xm (g B:Nat) (A:Option Addr) (n c:Nat) (bs:List Int) (b o m d:Nat) (w:World) (h:Cur w g B A n c bs) (hn:n<=1099511627776) (hm:0<m) (hm':m<=1099511627776) (hbg:b≠g) (hb:b<w.heap.size)
  (hc:∀j,j<m→∃y:Int,w.cell? ⟨b,o+j,none⟩=some (.int .i64 y)) :
  Calls Tryz.prog 134 #[.pointer (some ⟨g,0,none⟩),.slice (some ⟨b,o,none⟩) m d] w fun e w'=>∃x:Int,e = .returned (.int .i64 x)/\Cur w' g B A n c bs/\w.grownBy w' (some g):=by
 have HC:=Hd h
 have HY:=Hd hc
 clear h hc
 go_enter Tryz.func134,Tryz.ntmps134
 go_wp2_with fail
 refine (aj g B A n c bs m _ HC.out hn (by omega) (by omega)).mono ?_
 rintro e w1 ⟨x,rfl,hx0,hx1,k1,g1⟩
 obtain ⟨y,hy⟩:=HY.out x.toNat (by omega)
 have hcx:w1.cell? ⟨b,o+x.toNat,none⟩=some (.int .i64 y):=by
  rw [←hy]
  exact World.cell?_of_block (a:=⟨b,o+x.toNat,none⟩) (g1.block b hb (by simpa using hbg))
 have K1:=Hd k1
 have G1:=Hd g1
 clear k1 g1 hy
 go_wp2_with fail
 go_ret
 exact ⟨_,rfl,K1.out,G1.out⟩
theorem Av {w:World} {l:List Int} {m:Nat} (hm:l.length=m) (j:Nat) (hj:j<m):∃y:Int,(w.alloc (.cells (l.map (Value.int .i64)).toArray 3)).cell? ⟨w.heap.size,0+j,none⟩=some (.int .i64 y):=by
 refine ⟨l[j]?.getD 0,?_⟩
 unfold World.cell?
 rw [aK]
 have:j<l.length:=by omega
 simp [this]
/-! ### words for a checksum -/
theorem aP {w w':World} {r:Option Nat} (h:w.grownBy w' r) {b:Nat} (hb:w.heap.size<=b) (j:Nat) (v:Value):w.grownBy (w'.setCell ⟨b,j,none⟩ v) r :=
 ⟨h.os,h.tape,h.output,by simpa [World.setCell] using h.size,fun k hk hne=>(iU (p:=⟨b,j,none⟩) (by simp only;omega) v).trans (h.block k hk hne)⟩
theorem Cur.setNew {w:World} {g B:Nat} {A:Option Addr} {n c:Nat} {bs:List Int} (h:Cur w g B A n c bs) {b:Nat} (hb:g<b) (j:Nat) (v:Value):Cur (w.setCell ⟨b,j,none⟩ v) g B A n c bs:=by
 have hB:B<=g:=by obtain ⟨i,x,hi,hB,_⟩:=h;exact hB
 exact h.keep (iU (p:=⟨b,j,none⟩) (by simp only;omega) v) fun k hk=>iU (p:=⟨b,j,none⟩) (by simp only;omega) v
theorem Gl (d:Dev) (n:Int):(jr d n).length<=26:=by
 unfold jr
 split
 ·rename_i h
  have hno:=h.1
  unfold bU at hno
  rw [Bool.and_eq_true] at hno
  have hT:=ah (dP hno.1).1
  have h1:=sF (gI d (n / aM d) (n % aM d))
  have hK:∀(r:Int) (k:Nat),(fO d (n / aM d) (n % aM d) r (k:Int) (bV (k:Int)).toNat).length<=1+k % 2:=by
   intro r k
   have hw:(bV (k:Int)).toNat=1+k % 2:=by unfold bV;omega
   have hS:∀s:Int,(kS d (n / aM d) (n % aM d) r (k:Int) s).length<=1:=by
    intro s;unfold kS lh;split <;> (try split) <;> simp
   have:∀s:Nat,(fO d (n / aM d) (n % aM d) r (k:Int) s).length<=s:=by
    intro s
    induction s with
    | zero=>simp [fO]
    | succ s ih=>rw [lL,List.length_append];have:=hS ((s:Int)+1);omega
   have:=this (bV (k:Int)).toNat
   omega
  have hR:∀(r:Int) (k:Nat),(iG d (n / aM d) (n % aM d) r k).length<=k+k / 2:=by
   intro r k
   induction k with
   | zero=>simp [iG]
   | succ k ih=>rw [lM,List.length_append];have:=hK r k;omega
  have hA:∀r:Nat,(fH d (n / aM d) (n % aM d) r).length<=6 * r:=by
   intro r
   induction r with
   | zero=>simp [fH]
   | succ r ih=>rw [lQ,List.length_append];have:=hR (r:Int) d.T.toNat;omega
  have:=hA 4
  have ho:(gD d (n / aM d)).length<=2:=by unfold gD;split <;> simp
  have hI:(gI d (n / aM d) (n % aM d)).length<=26:=by
   unfold gI
   rw [List.length_append]
   split
   ·omega
   ·simp;omega
  omega
 ·simp
/-! ### a tile's node -/
theorem yX (d:Dev) (t m:Int) (w:World) (hd:bL d=true) (ht:0<=t/\t<d.W * d.H) (hm:0<=m/\m<(fK d:Int)) :
  Calls Tryz.prog 219 #[.agg #[.int .i64 d.W,.int .i64 d.H,.int .i64 d.T,.int .i64 d.R],.int .i64 t,.int .i64 m] w fun e w'=>∃x:Int,e = .returned (.int .i64 x)/\Below w.heap.size w w':=by
 have hb:=ah hd
 have hwh:=dW hd
 have hb0:Below w.heap.size w (w.alloc (.cells #[.int .i64 d.W,.int .i64 d.H,.int .i64 d.T,.int .i64 d.R] 25)):=aB (Below.refl _ _) _
 have HB0:=Hd hb0
 have HD:=Hd hd
 have TK:=Hd (mE hd ht.1 ht.2)
 have HK:=Hd (dm d t)
 have hmx:=(gY hd).2.2.1
 have HMN:=Hd (fun w=>vo d w hd)
 generalize fK d=M at *
 have m0:decide (m<0)=false:=by simp;omega
 have m1:decide (m≥(M:Int))=false:=by simp;omega
 clear hb0 hd
 go_enter Tryz.func219,Tryz.ntmps219
 go_wp2_with fail
 refine (iE d t _ (by omega)).mono ?_
 rintro e w1 ⟨rfl,b1⟩
 rw [TK.out]
 have hk:=HK.out
 clear HK TK
 generalize bA d t=kd at *
 have k0:decide (kd<0)=false:=by simp;omega
 have HB1:=Hd b1
 obtain ⟨hcc,hff⟩:=aQ b1
 clear b1 hk
 go_wp2_with fail
 refine (HMN.out _).mono ?_
 rintro e w2 ⟨rfl,b2⟩
 have HB2:=Hd (aA HB1.out b2)
 clear b2 hcc hff
 obtain ⟨hcc,hff⟩:=aQ HB2.out
 go_wp2_with fail
 refine (dD d _ (by omega) (by omega)).mono ?_
 rintro e w3 ⟨rfl,b3⟩
 have HB3:=Hd (aA HB2.out b3)
 clear b3 hcc hff
 obtain ⟨hcc,hff⟩:=aQ HB3.out
 by_cases h5:m≥5
 ·have hd5:decide (m≥5)=true:=by simpa using h5
  go_wp2_with fail
  refine (eQ d _ _).mono ?_
  rintro e w4 ⟨rfl,b4⟩
  have HB4:=Hd (aA HB0.out (aA HB3.out b4))
  clear b4 hcc hff
  cases bU d _ with
  | true =>
   go_wp2_with fail
   go_ret
   exact ⟨_,rfl,HB4.out⟩
  | false =>
   go_wp2_with fail
   go_ret
   exact ⟨_,rfl,HB4.out⟩
 ·have hd5:decide (m≥5)=false:=by simp;omega
  go_wp2_with fail
  refine (eQ d _ _).mono ?_
  rintro e w4 ⟨rfl,b4⟩
  have HB4:=Hd (aA HB0.out (aA HB3.out b4))
  clear b4 hcc hff
  cases bU d _ with
  | true =>
   go_wp2_with fail
   go_ret
   exact ⟨_,rfl,HB4.out⟩
  | false =>
   go_wp2_with fail
   go_ret
   exact ⟨_,rfl,HB4.out⟩
end Go.Proofs.YtignkfhdkcgkgaaGreat
