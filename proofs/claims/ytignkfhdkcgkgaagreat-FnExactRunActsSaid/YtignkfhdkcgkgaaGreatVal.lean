/- The values of a device's nodes in plain terms: sweeps over the nodes until nothing changes. -/
import Derived.Test.YtignkfhdkcgkgaaGreatRq
namespace Go.Proofs.YtignkfhdkcgkgaaGreat
set_option maxHeartbeats 4000000
set_option maxRecDepth 100000
open Go.RowKit Cw
def nv (vs:List Int) (i:Int):Int:=vs[i.toNat]?.getD 0
def qW (d:Dev) (vs:List Int) (t s:Int):Int:=if s>0 then nv vs (t * aM d+s - 1) else 0
def nP (d:Dev) (vs:List Int) (t:Int) (sel:List Int):Nat→Bool
 | 0=>false
 | j+1=>nP d vs t sel j || decide (qW d vs t (sel[j]?.getD 0)<0)
def jR (d:Dev) (vs:List Int) (t:Int) (sel:List Int):Nat→Nat
 | 0=>0
 | j+1=>jR d vs t sel j+(qW d vs t (sel[j]?.getD 0)).toNat * 2 ^ j
def lm (d:Dev) (vs:List Int) (t:Int) (e:Le):Int:=if nP d vs t e.sel 4=true then -1 else ((bit e.mask.toNat (jR d vs t e.sel 4):Nat):Int)
def fK (ts:List au) (t e:Int):Le:=(di ts t).les[e.toNat]?.getD Le.zero
def sW (d:Dev) (ts:List au) (st pads vs:List Int) (t e:Int):Int :=
 if ah d t=0 then (if (di ts t).pad=1 then nv pads t else 0) else if ah d t=2 then nv st (2 * t) % 2 else if (fK ts t e).flop=1 then nv st (2 * t+e) else lm d vs t (fK ts t e)
def iw (d:Dev) (ts:List au) (st pads vs:List Int) (n:Int):Int :=
 if n % aM d=5∨n % aM d=6 then sW d ts st pads vs (n / aM d) (n % aM d - 5) else if 0<=fV d ts n then nv vs (fV d ts n) else 0
def ku (d:Dev) (ts:List au) (st pads vs:List Int) (n:Int):List Int :=
 if bS d n=true/\nv vs n<0/\0<=iw d ts st pads vs n then vs.set n.toNat (iw d ts st pads vs n) else vs
def bu (d:Dev) (ts:List au) (st pads vs:List Int):Nat→List Int
 | 0=>vs
 | k+1=>ku d ts st pads (bu d ts st pads vs k) (k:Int)
def itV (d:Dev) (ts:List au) (st pads:List Int) (N:Nat):Nat→List Int
 | 0=>List.replicate N (-1)
 | j+1=>bu d ts st pads (itV d ts st pads N j) N
def mV (d:Dev) (ts:List au) (st pads:List Int):List Int:=itV d ts st pads (ai d).toNat ((ai d).toNat+1)
def jw (vs:List Int):Nat:=(vs.filter fun x=>decide (0<=x)).length
def In3 (vs:List Int):Prop:=∀x∈vs,-1<=x/\x<=1
theorem yl {vs:List Int} (h:In3 vs) (i:Int):-1<=nv vs i/\nv vs i<=1:=by
 unfold nv
 rcases Nat.lt_or_ge i.toNat vs.length with hlt|hge
 ·rw [List.getElem?_eq_getElem hlt];exact h _ (List.getElem_mem hlt)
 ·rw [List.getElem?_eq_none hge];simp
theorem Ga {vs:List Int} (h:In3 vs) (k:Nat) {x:Int} (hx:-1<=x/\x<=1):In3 (vs.set k x):=by
 intro y hy
 rcases List.mem_or_eq_of_mem_set hy with hy|rfl
 ·exact h y hy
 ·exact hx
theorem Gf (N:Nat):In3 (List.replicate N (-1)):=by intro x hx;rw [List.mem_replicate] at hx;omega
theorem ym {d:Dev} {vs:List Int} (h:In3 vs) (t s:Int):-1<=qW d vs t s/\qW d vs t s<=1:=by
 unfold qW
 split
 ·exact yl h _
 ·omega
theorem Al {d:Dev} {vs:List Int} (h:In3 vs) (t:Int) (sel:List Int) (j:Nat):jR d vs t sel j<2 ^ j:=by
 induction j with
 | zero=>simp [jR]
 | succ j ih =>
  have:=ym (d:=d) h t (sel[j]?.getD 0)
  rw [jR,Nat.pow_succ]
  have h2:(qW d vs t (sel[j]?.getD 0)).toNat<=1:=by omega
  have:=Nat.mul_le_mul_right (2 ^ j) h2
  omega
theorem vz {d : Dev} {vs : List Int} {t : Int} {sel : List Int} {j k : Nat} (hjk : j <= k) (h : nP d vs t sel j = true) : nP d vs t sel k = true := by
  induction k with
  | zero => obtain rfl : j = 0 := by omega
            exact h
  | succ k ih =>
    rcases Nat.lt_or_ge k j with hlt | hge
    · obtain rfl : j = k + 1 := by omega
      exact h
    · rw [nP, ih hge]; rfl
theorem Gg (d:Dev) (vs:List Int) (t:Int) (e:Le):-1<=lm d vs t e/\lm d vs t e<=1:=by
 unfold lm
 split
 ·omega
 ·have:=fP e.mask.toNat (jR d vs t e.sel 4);omega
structure kD (d:Dev) (ts:List au) (st pads:List Int):Prop where
 pad:∀t,bI d t=true→ah d t=0→0<=nv pads t/\nv pads t<=1
 sta:∀t e,bI d t=true→ah d t=1→0<=e→e<=1→0<=nv st (2 * t+e)/\nv st (2 * t+e)<=1
 ram:∀t,bI d t=true→ah d t=2→0<=nv st (2 * t)/\nv st (2 * t)<=31
theorem Gh {d:Dev} {ts:List au} {st pads vs:List Int} (h:kD d ts st pads) {t e:Int} (ht:bI d t=true) (he:0<=e/\e<=1):-1<=sW d ts st pads vs t e/\sW d ts st pads vs t e<=1:=by
 unfold sW
 rcases df d t with hk|hk|hk
 ·rw [if_pos hk];split
  ·have:=h.pad t ht hk;omega
  ·omega
 ·rw [if_neg (by omega),if_neg (by omega)];split
  ·have:=h.sta t e ht hk he.1 he.2;omega
  ·exact Gg _ _ _ _
 ·rw [if_neg (by omega),if_pos hk];omega
theorem wB {d:Dev} {ts:List au} {st pads vs:List Int} (h:kD d ts st pads) (hv:In3 vs) {n:Int} (hn:bZ d n=true):-1<=iw d ts st pads vs n/\iw d ts st pads vs n<=1:=by
 unfold iw
 split
 ·exact Gh h (gK hn) (by omega)
 ·split
  ·exact yl hv _
  ·omega
theorem yt (d:Dev) (ts:List au) (st pads vs:List Int) (n:Int):(ku d ts st pads vs n).length=vs.length:=by unfold ku;split <;> simp
theorem jh (d:Dev) (ts:List au) (st pads vs:List Int) (k:Nat):(bu d ts st pads vs k).length=vs.length:=by
 induction k with
 | zero=>rfl
 | succ k ih=>rw [bu,yt,ih]
theorem wC (d:Dev) (ts:List au) (st pads:List Int) (N j:Nat):(itV d ts st pads N j).length=N:=by
 induction j with
 | zero=>simp [itV]
 | succ j ih=>rw [itV,jh,ih]
theorem Fu {d:Dev} {ts:List au} {st pads vs:List Int} (h:kD d ts st pads) (hv:In3 vs) (n:Int):In3 (ku d ts st pads vs n):=by
 unfold ku
 split
 ·rename_i hc
  have hni:bZ d n=true:=by have:=hc.1;unfold bS at this;rw [Bool.and_eq_true] at this;exact this.1
  exact Ga hv _ (wB h hv hni)
 ·exact hv
theorem rO {d:Dev} {ts:List au} {st pads vs:List Int} (h:kD d ts st pads) (hv:In3 vs) (k:Nat):In3 (bu d ts st pads vs k):=by
 induction k with
 | zero=>exact hv
 | succ k ih=>exact Fu h ih _
theorem CZ {d:Dev} {ts:List au} {st pads:List Int} (h:kD d ts st pads) (N j:Nat):In3 (itV d ts st pads N j):=by
 induction j with
 | zero=>exact Gf N
 | succ j ih=>exact rO h ih _
theorem pm {vs:List Int} {k:Nat} (hk:k<vs.length) (h:vs[k]?.getD 0<0) {x:Int} (hx:0<=x):jw (vs.set k x)=jw vs+1:=by
 induction vs generalizing k with
 | nil=>simp at hk
 | cons y vs ih =>
  cases k with
  | zero =>
   simp only [List.getElem?_cons_zero,Option.getD_some] at h
   unfold jw
   rw [List.set_cons_zero,List.filter_cons_of_pos (by simpa using hx),List.filter_cons_of_neg (by simp;omega)]
   simp
  | succ k =>
   have:=ih (k:=k) (by simpa using hk) (by simpa using h)
   unfold jw at *
   rw [List.set_cons_succ,List.filter_cons,List.filter_cons]
   split <;> simp [this]
theorem sZ (vs:List Int):jw vs<=vs.length:=List.length_filter_le _ _
theorem Ef (d:Dev) (ts:List au) (st pads vs:List Int) (n:Int):(ku d ts st pads vs n=vs)∨jw (ku d ts st pads vs n)=jw vs+1:=by
 unfold ku
 split
 ·rename_i hc
  rcases Nat.lt_or_ge n.toNat vs.length with hlt|hge
  ·exact .inr (pm hlt hc.2.1 hc.2.2)
  ·have:=hc.2.1
   unfold nv at this
   rw [List.getElem?_eq_none hge] at this
   simp at this
 ·exact .inl rfl
theorem pq (d:Dev) (ts:List au) (st pads vs:List Int) (k:Nat):jw vs<=jw (bu d ts st pads vs k)/\(jw (bu d ts st pads vs k)=jw vs→bu d ts st pads vs k=vs):=by
 induction k with
 | zero=>exact ⟨Nat.le_refl _,fun _=>rfl⟩
 | succ k ih =>
  rw [bu]
  rcases Ef d ts st pads (bu d ts st pads vs k) (k:Int) with h|h
  ·rw [h];exact ih
  ·rw [h];exact ⟨by omega,fun h2=>by omega⟩
theorem Dx {d:Dev} {ts:List au} {st pads:List Int} {N j:Nat} (h:bu d ts st pads (itV d ts st pads N j) N=itV d ts st pads N j):∀i,itV d ts st pads N (j+i)=itV d ts st pads N j
 | 0=>rfl
 | i+1=>by rw [←Nat.add_assoc,itV,Dx h i,h]
theorem Fv {d:Dev} {ts:List au} {st pads:List Int} {j:Nat} (hj:j<=(ai d).toNat) (h:bu d ts st pads (itV d ts st pads (ai d).toNat j) (ai d).toNat=itV d ts st pads (ai d).toNat j):mV d ts st pads=itV d ts st pads (ai d).toNat j:=by
 have:=Dx h ((ai d).toNat+1 - j)
 rw [show j+((ai d).toNat+1 - j)=(ai d).toNat+1 by omega] at this
 exact this
theorem si (d:Dev) (ts:List au) (st pads:List Int):(mV d ts st pads).length=(ai d).toNat:=wC _ _ _ _ _ _
/-! ### which nodes are determined does not depend on the state or the pads -/
theorem uD {d:Dev} {ts:List au} {t e:Int} (hc:kN d ts) (ht:bI d t=true) (he:0<=e/\e<=1):GN (fK ts t e)/\(di ts t).les.length=2/\t.toNat<ts.length/\zR d (di ts t):=by
 obtain ⟨hd,h0,h1⟩:=aV.1 ht
 have hN:=(bT hd).1
 have hlt:t.toNat<ts.length:=by rw [hc.len];omega
 have hf:=wV (hc.fit _ hlt)
 obtain ⟨e0,e1,hle,ho0,ho1⟩:=hf.les
 change (di ts t).les=[e0,e1] at hle
 refine ⟨?_,by rw [hle];rfl,hlt,hf⟩
 unfold fK
 rw [hle]
 have:e=0∨e=1:=by omega
 rcases this with rfl|rfl
 ·exact Bn ho0
 ·exact Bn ho1
theorem Dy {e:Le} (h:GN e):e.sel.length=4/\∀j,j<4→0<=e.sel[j]?.getD 0/\e.sel[j]?.getD 0<=7:=by
 obtain ⟨a,b,c,d,hs,ha,hb,hc,hd⟩:=h.sel
 rw [hs]
 refine ⟨rfl,fun j hj=>?_⟩
 have:j=0∨j=1∨j=2∨j=3:=by omega
 rcases this with rfl|rfl|rfl|rfl <;> simp <;> omega
theorem Dz {d:Dev} {vs:List Int} {t s:Int} (h:s>0):qW d vs t s=nv vs (t * aM d+s - 1):=by unfold qW;rw [if_pos h]
theorem xg {d:Dev} {vs:List Int} {t s:Int} (h:¬s>0):qW d vs t s=0:=by unfold qW;rw [if_neg h]
theorem vG {d:Dev} {t k:Int} (ht:bI d t=true) (_h0:0<=k) (h1:k<aM d):0<=t * aM d/\t * aM d<=805/\t * aM d+k<ai d:=by
 obtain ⟨hd,t0,t1⟩:=aV.1 ht
 have hp:=bg hd
 have hWH:=dL hd
 have a:=jG t0 (show t<=35 by omega) (show 0<=aM d by omega) hp.2
 have h2:(t+1) * aM d<=d.W * d.H * aM d:=Int.mul_le_mul_of_nonneg_right (by omega) (by omega)
 rw [Int.add_mul,Int.one_mul] at h2
 unfold ai
 omega
theorem D7 (g:Nat) (d:Dev) (ts:List au) (TA:Option Addr) (m tc:Nat) (EA DA:Option Addr) (N:Nat) (VA:Option Addr) (vc:Nat) (vs:List Int) (t e:Int) (w:World) (hem:uQ w g d ts TA m tc EA DA N) (hv:bH w VA N vs) (h3:In3 vs) (hN:(N:Int)=ai d) (hc:kN d ts) (ht:bI d t=true) (he:0<=e/\e<=1) :
  Calls Tryz.prog 202 #[.pointer (some ⟨g,0,none⟩),.slice VA N vc,.int .i64 t,.int .i64 e] w fun e' w'=>e' = .returned (.int .i64 (lm d vs t (fK ts t e)))/\Below w.heap.size w w':=by
 obtain ⟨hlf,hl2,htl,hf⟩:=uD hc ht he
 obtain ⟨hsl,hsin⟩:=Dy hlf
 obtain ⟨hd,t0,t1⟩:=aV.1 ht
 have hWH:=dL hd
 have hT:=aY hd
 have hp:=bg hd
 have hnb:=cK hd
 have hmk:=hlf.mask
 obtain ⟨b,o,S,m3,p,L,l,q,rfl,hb,ca,cl,-,-,-,rl⟩:=hem.tiles.tile htl
 change RdC w w.heap.size (qG (di ts t).les) (.slice L l q) at rl
 have hll:=rl.elen
 obtain ⟨bl,ol,S4,m4,p4,rfl,hbl,d0,d1,d2,d3,r4⟩:=rl.le (k:=e.toNat) (by omega)
 change w.cell? ⟨bl,ol+e.toNat * 4+1,none⟩=some (.int .i64 (fK ts t e).mask) at d1
 change w.cell? ⟨bl,ol+e.toNat * 4+2,none⟩=some (.int .i64 (fK ts t e).flop) at d2
 change w.cell? ⟨bl,ol+e.toNat * 4+3,none⟩=some (.int .i64 (fK ts t e).init) at d3
 change RdC w w.heap.size (ig (fK ts t e).sel) (.slice S4 m4 p4) at r4
 have hS:=RdC.ints r4
 have htt:=hem.tiles.tlen
 have x4:=aC (k:=4) hem.box rfl
 have x0:=aC (k:=0) hem.box rfl
 have x1:=aC (k:=1) hem.box rfl
 have x2:=aC (k:=2) hem.box rfl
 have x3:=aC (k:=3) hem.box rfl
 have hgl:=aX hem.box
 have hm4:m4=4:=by rw [←hS.1];exact hsl
 subst hm4
 have hl:l=2:=by rw [←hll];exact hl2
 subst hl
 have HLT:=Hd (Al (d:=d) h3 t (fK ts t e).sel)
 have HIN:=Hd (fun s=>ym (d:=d) h3 t s)
 have HLF:Hid (lm d vs t (fK ts t e)=if nP d vs t (fK ts t e).sel 4=true then -1 else ((bit (fK ts t e).mask.toNat (jR d vs t (fK ts t e).sel 4):Nat):Int)):=rfl
 have HSI:=Hd hsin
 have HV:=Hd hv
 have HS:=Hd hS
 have HT:=Hd ht
 have HX:=Hd (And.intro x0 (And.intro x1 (And.intro x2 x3)))
 have HNE:=Hd hN
 obtain ⟨tn,rfl⟩:=Int.eq_ofNat_of_zero_le t0
 obtain ⟨en,rfl⟩:=Int.eq_ofNat_of_zero_le he.1
 rw [Int.toNat_natCast] at ca cl htl d0 d1 d2 d3
 have i0:(0:Int)<=(tn:Int):=t0
 have i1:(tn:Int)<(m:Int):=by omega
 have j0:(0:Int)<=(en:Int):=he.1
 have j1:(en:Int)<2:=by omega
 clear hem h3 hc ht hd hf hlf hsin rl r4 hN ca x0 x1 x2 x3 hv hS hsl hll htt hl2
 generalize fK ts (tn:Int) (en:Int)=le at *
 generalize hmm:le.mask=mk at *
 obtain ⟨mk,rfl⟩:=Int.eq_ofNat_of_zero_le hmk.1
 have HMM:=Hd hmm
 clear hmm
 go_enter Tryz.func202,Tryz.ntmps202
 go_wp2_with fail
 obtain ⟨bs,os,rfl,hbs,hcs⟩:=HS.out.2 (by omega)
 clear cl d0 d1 d2 d3 x4
 go_loopw [10,28] (fun v i wr=>∃j:Nat,j<=4/\i = .int .i64 j/\v = .int .i64 ((jR d vs (tn:Int) le.sel j:Nat):Int)/\nP d vs (tn:Int) le.sel j=false/\Below (w.alloc (.cells #[.slice (some ⟨bs,os,none⟩) 4 p4,.int .i64 (mk:Int),.int .i64 le.flop,.int .i64 le.init] 107)).heap.size (w.alloc (.cells #[.slice (some ⟨bs,os,none⟩) 4 p4,.int .i64 (mk:Int),.int .i64 le.flop,.int .i64 le.init] 107)) wr) (fun _ i _=>4 - (intOf i).toNat)
 case atStart=>exact ⟨0,by omega,rfl,rfl,rfl,Below.refl _ _⟩
 case round =>
  obtain ⟨j,hj,rfl,rfl,hneg,hb⟩:=hrel
  have HNG:=Hd hneg
  have HB:=Hd hb
  have hs:=hb.size
  simp only [World.size_alloc] at hs
  clear hneg
  by_cases hlt:j<4
  ·have hdj:decide ((j:Int)<4)=true:=by simp;omega
   have hck:=hcs j hlt
   have hbw:Below w.heap.size w wr:=aA (aB (Below.refl _ _) _) hb
   rw [←hbw.cell (p:=⟨bs,os+j,none⟩) hbs] at hck
   have hbsr:bs<wr.heap.size:=by omega
   have hsj:=HSI.out j hlt
   have HNS:Hid (nP d vs (tn:Int) le.sel (j+1)=(nP d vs (tn:Int) le.sel j || decide (qW d vs (tn:Int) (le.sel[j]?.getD 0)<0))):=rfl
   have HIS:Hid (jR d vs (tn:Int) le.sel (j+1)=jR d vs (tn:Int) le.sel j+(qW d vs (tn:Int) (le.sel[j]?.getD 0)).toNat * 2 ^ j):=rfl
   have hvj:=HIN.out (le.sel[j]?.getD 0)
   have hidx:=HLT.out j
   have HSA:=Hd (fun h=>Dz (d:=d) (vs:=vs) (t:=(tn:Int)) (s:=le.sel[j]?.getD 0) h)
   have HSZ:=Hd (fun h=>xg (d:=d) (vs:=vs) (t:=(tn:Int)) (s:=le.sel[j]?.getD 0) h)
   have HMO:=Hd (fun h=>vz (d:=d) (vs:=vs) (t:=(tn:Int)) (sel:=le.sel) (j:=j+1) (k:=4) (by omega) h)
   have HBW:=Hd hbw
   have j0':(0:Int)<=(j:Int):=by omega
   have j1':(j:Int)<4:=by omega
   generalize le.sel[j]?.getD 0=s at *
   generalize hsv:qW d vs (tn:Int) s=v at *
   generalize jR d vs (tn:Int) le.sel j=idx at *
   have HIDX:=Hd hidx
   clear hb hbw hidx hsv
   by_cases hs0:s>0
   ·have hds:decide (s>0)=true:=by simpa using hs0
    obtain ⟨q0,q1,q2,q3⟩:=HX.out
    obtain ⟨hcc,hff⟩:=aO HBW.out
    have hM:=vG HT.out (k:=s - 1) (by omega) (by omega)
    have hvs:=HSA.out hs0
    obtain ⟨bv,ov,rfl,hbv,hcv⟩:=HV.out.2 (by have:=HNE.out;omega)
    have hcx:=hcv ((tn:Int) * aM d+s - 1).toNat (by have:=HNE.out;omega)
    change w.cell? ⟨bv,ov+((tn:Int) * aM d+s - 1).toNat,none⟩=some (.int .i64 (nv vs ((tn:Int) * aM d+s - 1))) at hcx
    rw [←hvs,show ((tn:Int) * aM d+s - 1).toNat=((tn:Int) * aM d+s).toNat - 1 by omega] at hcx
    have HVS:=Hd hvs
    have hgw:g<wr.heap.size:=by omega
    have k0:(0:Int)<=(tn:Int) * aM d+s - 1:=by omega
    have k1:(tn:Int) * aM d+s - 1<(N:Int):=by have:=HNE.out;omega
    clear hcv hvs
    go_wp2_with fail
    refine (eH d _ (by omega) (by omega)).mono ?_
    rintro e w5 ⟨rfl,b5⟩
    have HB5:=Hd (aA HB.out b5)
    have hs5:=b5.size
    have hbwv:=aA HBW.out b5
    have hbv5:=eZ hbwv hbv
    obtain ⟨hcc5,hff5⟩:=aO hbwv
    clear b5 hcc hff hck
    by_cases hv0:v<0
    ·have hdv:decide (v<0)=true:=by simpa using hv0
     have HE:Hid (lm d vs (tn:Int) le=-1):=by show _=_;rw [HLF.out,if_pos (HMO.out (by rw [HNS.out,hdv];simp))]
     go_wp2_with fail
     go_ret
     exact ⟨aP HE.out.symm,aA (aB (Below.refl _ _) _) HB5.out⟩
    ·have hdv:decide (v<0)=false:=by simp;omega
     obtain ⟨vn,rfl⟩:=Int.eq_ofNat_of_zero_le (show 0<=v by omega)
     have hv1:vn<=1:=by omega
     go_wp2_with fail
     go_roundw
     case rel=>exact ⟨j+1,by omega,by go_num,by rw [pJ HIDX.out hv1 (by omega),HIS.out,Int.toNat_natCast],by rw [HNS.out,HNG.out,hdv];rfl,HB5.out⟩
     case measure=>simp [intOf];omega
   ·have hds:decide (s>0)=false:=by simp;omega
    have hvz:=HSZ.out hs0
    subst hvz
    have HB5:=HB
    clear hs0 HSA
    go_wp2_with fail
    go_roundw
    case rel=>exact ⟨j+1,by omega,by go_num,by have hp2:2 ^ j<=2 ^ 4:=Nat.pow_le_pow_right (by omega) (by omega);have hi:=HIDX.out;have ho:bits BinOp.or IntKind.i64 (idx:Int) 0=((idx ||| 0:Nat):Int):=gz idx 0 (by omega) (by omega);rw [ho,Nat.or_zero,HIS.out];simp,by rw [HNS.out,HNG.out];rfl,HB5.out⟩
    case measure=>simp [intOf];omega
  ·have hj4:j=4:=by omega
   have HJ4:=Hd hj4
   have hidx:=HLT.out 4
   have HE:Hid (lm d vs (tn:Int) le=((bit mk (jR d vs (tn:Int) le.sel 4):Nat):Int)):=by
    have h:=HNG.out
    rw [HJ4.out] at h
    show _=_
    rw [HLF.out,h]
    rfl
   subst hj4
   generalize jR d vs (tn:Int) le.sel 4=idx at *
   have hdj:decide (((4:Nat):Int)<4)=false:=by decide
   have hi16:idx<16:=by simpa using hidx
   obtain ⟨hcc,hff⟩:=aO hb
   go_wp2_with fail
   go_ret
   exact ⟨aP (by rw [HE.out];first|exact jC mk idx (by omega)|rfl),aA (aB (Below.refl _ _) _) HB.out⟩
theorem IB {x:Int} (h0:0<=x) (h1:x<=31):bits .and .i64 x 1=x % 2:=by
 obtain ⟨n,rfl⟩:=Int.eq_ofNat_of_zero_le h0
 rw [mO n (by omega)]
 omega
theorem Gi (g:Nat) (d:Dev) (ts:List au) (TA:Option Addr) (m tc:Nat) (EA DA:Option Addr) (N:Nat) (VA:Option Addr) (vc:Nat) (vs:List Int) (SA:Option Addr) (sn sc:Nat) (st:List Int) (PA:Option Addr) (pn pc:Nat) (pads:List Int) (t e:Int) (w:World)
  (hem:uQ w g d ts TA m tc EA DA N) (hv:bH w VA N vs) (h3:In3 vs) (hN:(N:Int)=ai d) (hst:bH w SA sn st) (hpa:bH w PA pn pads) (hsn:(sn:Int)=2 * (d.W * d.H)) (hpn:(pn:Int)=d.W * d.H) (hsp:kD d ts st pads) (hc:kN d ts) (ht:bI d t=true) (he:0<=e/\e<=1) :
  Calls Tryz.prog 229 #[.pointer (some ⟨g,0,none⟩),.slice VA N vc,.slice SA sn sc,.slice PA pn pc,.int .i64 t,.int .i64 e] w fun e' w'=>e' = .returned (.int .i64 (sW d ts st pads vs t e))/\Below w.heap.size w w':=by
 obtain ⟨hlf,hl2,htl,hf⟩:=uD hc ht he
 obtain ⟨hd,t0,t1⟩:=aV.1 ht
 have hWH:=dL hd
 have hT:=aY hd
 obtain ⟨b,o,S,m3,p,L,l,q,rfl,hb,ca,cl,cp,cr,-,rl⟩:=hem.tiles.tile htl
 change w.cell? ⟨b,o+t.toNat * 4+2,none⟩=some (.int .i64 (di ts t).pad) at cp
 change w.cell? ⟨b,o+t.toNat * 4+3,none⟩=some (.int .i64 (di ts t).ram) at cr
 change RdC w w.heap.size (qG (di ts t).les) (.slice L l q) at rl
 have hll:=rl.elen
 obtain ⟨bl,ol,S4,m4,p4,rfl,hbl,d0,d1,d2,d3,r4⟩:=rl.le (k:=e.toNat) (by omega)
 change w.cell? ⟨bl,ol+e.toNat * 4+2,none⟩=some (.int .i64 (fK ts t e).flop) at d2
 have htt:=hem.tiles.tlen
 have x4:=aC (k:=4) hem.box rfl
 have hgl:=aX hem.box
 have hl:l=2:=by rw [←hll];exact hl2
 subst hl
 obtain ⟨bs,os,rfl,hbs,hcs⟩:=hst.2 (by omega)
 obtain ⟨bp,op,rfl,hbp,hcp⟩:=hpa.2 (by omega)
 have HPF:Hid (sW d ts st pads vs t e=if ah d t=0 then (if (di ts t).pad=1 then nv pads t else 0) else if ah d t=2 then nv st (2 * t) % 2 else if (fK ts t e).flop=1 then nv st (2 * t+e) else lm d vs t (fK ts t e)):=rfl
 have hpad:=hcp t.toNat (by omega)
 change w.cell? ⟨bp,op+t.toNat,none⟩=some (.int .i64 (nv pads t)) at hpad
 have hs0:=hcs (2 * t).toNat (by omega)
 change w.cell? ⟨bs,os+(2 * t).toNat,none⟩=some (.int .i64 (nv st (2 * t))) at hs0
 have hs1:=hcs (2 * t+e).toNat (by omega)
 change w.cell? ⟨bs,os+(2 * t+e).toNat,none⟩=some (.int .i64 (nv st (2 * t+e))) at hs1
 have HRAM:=Hd (fun h=>hsp.ram t ht h)
 have HLUT:=Hd (fun w' (hb:Below w.heap.size w w')=>D7 g d ts (some ⟨b,o,none⟩) m tc EA DA N VA vc vs t e w' (hem.below hb) (hv.below hb) h3 hN hc ht he)
 have HTK:=Hd (fun w'=>iC d t w' hd t0 (by omega))
 have HX:=Hd (And.intro (aC (k:=0) hem.box rfl) (And.intro (aC (k:=1) hem.box rfl) (And.intro (aC (k:=2) hem.box rfl) (aC (k:=3) hem.box rfl))))
 obtain ⟨x0,x1,x2,x3⟩:=HX.out
 obtain ⟨tn,rfl⟩:=Int.eq_ofNat_of_zero_le t0
 obtain ⟨en,rfl⟩:=Int.eq_ofNat_of_zero_le he.1
 rw [show (2 * (tn:Int)).toNat=2 * tn by omega] at hs0
 rw [show (2 * (tn:Int)+(en:Int)).toNat=2 * tn+en by omega] at hs1
 rw [Int.toNat_natCast] at ca cl cp cr htl hpad d0 d1 d2 d3
 have i0:(0:Int)<=(tn:Int):=t0
 have i1:(tn:Int)<(m:Int):=by omega
 have i2:(tn:Int)<(pn:Int):=by omega
 have i3:2 * (tn:Int)<(sn:Int):=by omega
 have i4:2 * (tn:Int)+(en:Int)<(sn:Int):=by omega
 have j0:(0:Int)<=(en:Int):=he.1
 have j1:(en:Int)<2:=by omega
 have hb0:=aB (Below.refl w.heap.size w) (.cells #[.slice S m3 p,.slice (some ⟨bl,ol,none⟩) 2 q,.int .i64 (di ts (tn:Int)).pad,.int .i64 (di ts (tn:Int)).ram] 103)
 have HB0:=Hd hb0
 clear hem hv h3 hN hst hpa hsp hc ht hd hf hlf hcs hcp rl r4 htt hll hl2 d0 d1 d3 hb0 htl
 have hk3:=df d (tn:Int)
 generalize ah d (tn:Int)=K at *
 generalize di ts (tn:Int)=tl at *
 generalize fK ts (tn:Int) (en:Int)=le at *
 generalize lm d vs (tn:Int) le=lv at *
 generalize nv pads (tn:Int)=vp at *
 generalize nv st (2 * (tn:Int))=v0 at *
 generalize nv st (2 * (tn:Int)+(en:Int))=v1 at *
 go_enter Tryz.func229,Tryz.ntmps229
 go_wp2_with fail
 refine (HTK.out _).mono ?_
 rintro e' w1 ⟨rfl,b1⟩
 have HB1:=Hd (aA HB0.out b1)
 have hs1':=b1.size
 simp only [World.size_alloc] at hs1'
 have hbw:=aA HB0.out b1
 have y2:=(b1.cell (p:=⟨w.heap.size,2,none⟩) (by simp)).trans (aC (k:=2) (aL w _) rfl)
 have y1:=(b1.cell (p:=⟨w.heap.size,1,none⟩) (by simp)).trans (aC (k:=1) (aL w _) rfl)
 obtain ⟨hcc,hff⟩:=aO hbw
 clear b1 hbw
 have k1:=eZ HB1.out hbs
 have k2:=eZ HB1.out hbp
 have k3:=eZ HB1.out hbl
 rcases hk3 with rfl|rfl|rfl
 ·by_cases hp1:tl.pad=1
  ·have q1:(tl.pad==1)=true:=by simpa using hp1
   have HE:Hid (sW d ts st pads vs (tn:Int) (en:Int)=vp):=by show _=_;rw [HPF.out,if_pos rfl,if_pos hp1]
   clear hp1
   go_wp2_with fail
   go_ret
   exact ⟨aP HE.out.symm,HB1.out⟩
  ·have q1:(tl.pad==1)=false:=by simpa using hp1
   have HE:Hid (sW d ts st pads vs (tn:Int) (en:Int)=0):=by show _=_;rw [HPF.out,if_pos rfl,if_neg hp1]
   clear hp1
   go_wp2_with fail
   go_ret
   exact ⟨aP HE.out.symm,HB1.out⟩
 ·by_cases hp1:le.flop=1
  ·have q1:(le.flop==1)=true:=by simpa using hp1
   have HE:Hid (sW d ts st pads vs (tn:Int) (en:Int)=v1):=by show _=_;rw [HPF.out,if_neg (by omega),if_neg (by omega),if_pos hp1]
   clear hp1
   go_wp2_with fail
   go_ret
   exact ⟨aP HE.out.symm,HB1.out⟩
  ·have q1:(le.flop==1)=false:=by simpa using hp1
   have HE:Hid (sW d ts st pads vs (tn:Int) (en:Int)=lv):=by show _=_;rw [HPF.out,if_neg (by omega),if_neg (by omega),if_neg hp1]
   clear hp1
   go_wp2_with fail
   refine (HLUT.out _ HB1.out).mono ?_
   rintro e' w2 ⟨rfl,b2⟩
   have HB2:=Hd (aA HB1.out b2)
   clear b2 hcc hff
   go_wp2_with fail
   go_ret
   exact ⟨aP HE.out.symm,HB2.out⟩
 ·have hr:=HRAM.out rfl
  have HE:Hid (sW d ts st pads vs (tn:Int) (en:Int)=v0 % 2):=by show _=_;rw [HPF.out,if_neg (by omega),if_pos rfl]
  go_wp2_with fail
  go_ret
  exact ⟨aP (by rw [HE.out];first|exact IB hr.1 hr.2|rfl),HB1.out⟩
end Go.Proofs.YtignkfhdkcgkgaaGreat
