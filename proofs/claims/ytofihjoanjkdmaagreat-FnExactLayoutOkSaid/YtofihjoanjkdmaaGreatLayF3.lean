/- Inputs of logic elements, pins of blocks in the program (printed by mkpin.py). -/
import Derived.Test.YtofihjoanjkdmaaGreatCopies
import Derived.Test.YtofihjoanjkdmaaGreatLayF2
import Derived.Test.YtofihjoanjkdmaaGreatLayRd
namespace Go.Proofs.YtofihjoanjkdmaaGreat
set_option maxHeartbeats 2000000
set_option maxRecDepth 100000
open Go.RowKit
theorem lT {l:ai} {it:Int} {es:List LeT}:dD l ⟨0,it,es⟩↔0<=it/\it<l.inputs:=by simp [dD]
theorem lU {l:ai} {it:Int} {es:List LeT}:dD l ⟨1,it,es⟩↔0<=it/\it<(l.outs.length:Int):=by simp [dD]
theorem jG {l:ai} {it:Int} {es:List LeT}:dD l ⟨2,it,es⟩↔0<=it/\it<(l.seqs.length:Int):=by simp [dD]
theorem jb {l:ai} {it:Int} {es:List LeT}:dD l ⟨3,it,es⟩↔∀e∈es,dM l e:=by simp [dD]
theorem gm {l:ai} {kd it:Int} {es:List LeT} (h:dD l ⟨kd,it,es⟩):kd=0∨kd=1∨kd=2∨kd=3:=by
 rcases h with h|h|h|h
 ·exact .inl h.1
 ·exact .inr (.inl h.1)
 ·exact .inr (.inr (.inl h.1))
 ·exact .inr (.inr (.inr h.1))
theorem tL (l : ai) (SA LA OA : Option Addr) (sn sc ln lc on oc : Nat) (a b : Int) (w : World) (h : fI w l SA LA OA sn sc ln lc on oc) (hf : bB l) (he : dM l ⟨a, b⟩) :
    Calls Tryz.prog 214 #[iD l SA LA OA sn sc ln lc on oc, .agg #[.int .i64 a, .int .i64 b]] w fun e w' => ∃ A n c, e = .returned (.slice A n c) /\ Own w.heap.size w' A n c (fq l ⟨a, b⟩) /\ Below w.heap.size w w' := by
  have hLI : fq l ⟨a, b⟩ = asc ((if 0 <= a then (l.luts[a.toNat]?.getD Lt.zero).ins else (l.seqs[b.toNat]?.getD Sq.zero).ins).filter fun x => decide (x ≠ 0)) := rfl
  obtain ⟨e1, e2, e3, _⟩ := kR.1 he
  have hsf := (nE hf he).1
  change (if 0 <= a then (l.luts[a.toNat]?.getD Lt.zero).ins else (l.seqs[b.toNat]?.getD Sq.zero).ins).length <= 4 at hsf
  have HB0 := Hd (aF (aF (Below.refl w.heap.size w) (.cells (av l SA LA OA sn sc ln lc on oc) 41)) (.cells #[.int .i64 a, .int .i64 b] 94))
  have hx := bg (.cells #[.int .i64 a, .int .i64 b] 94) (aK w (.cells (av l SA LA OA sn sc ln lc on oc) 41))
  have hy := aK (w.alloc (.cells (av l SA LA OA sn sc ln lc on oc) 41)) (.cells #[.int .i64 a, .int .i64 b] 94)
  simp only [World.size_alloc] at hy
  have HXB := Hd hx
  have HYB := Hd hy
  clear hx hy
  obtain ⟨hsl, hll, hol⟩ := h.lens
  have hsn := hf.nseq
  have hln := hf.nlut
  have hon := hf.nout
  have hin := hf.inp
  rw [hsl] at hsn
  rw [hll] at hln
  rw [hol] at hon
  have HN := Hd h
  have HF := Hd hf
  have HSL := Hd hsl
  have HLL := Hd hll
  have HOL := Hd hol
  have HFI : Hid ((l.first : Int) = 1 + l.inputs + (sn : Int)) := by show _ = _; unfold ai.first; omega
  have HCO : Hid ((l.count : Int) = 1 + l.inputs + (sn : Int) + (ln : Int)) := by show _ = _; unfold ai.count ai.first; omega
  clear h hf hsl hll hol
  by_cases h0 : 0 <= a
  · have d0 : decide (a ≥ 0) = true := decide_eq_true h0
    rw [if_pos h0] at hLI hsf
    obtain ⟨X, rfl⟩ : ∃ X : Nat, a = (X : Int) := ⟨a.toNat, by omega⟩
    rw [Int.toNat_natCast] at hLI hsf
    have hX : X < ln := by have := HLL.out; omega
    obtain ⟨bb, ob, S, m, p, rfl, hbb, c0, c1, r2⟩ := HN.out.lt.lut' (k := X) (by rw [HLL.out]; exact hX)
    have lbb := aL HB0.out hbb
    rw [← HB0.out.cell (p := ⟨bb, ob + X * 2, none⟩) hbb] at c0
    have HSR := Hd r2.ints
    rw [r2.ints.1] at hsf
    have HLI := Hd hLI
    clear c1 r2 hLI e1 e2 e3 he
    generalize (l.luts[X]?.getD Lt.zero).ins = src at *
    go_enter Tryz.func214, Tryz.ntmps214
    go_upto_region 1 with fail
    generalize (w.alloc (.cells (av l SA (some ⟨bb, ob, none⟩) OA sn sc ln lc on oc) 41)).alloc (.cells #[.int .i64 (X : Int), .int .i64 b] 94) = W9 at *
    have x2 := aA (k := 2) HXB.out rfl
    have y0 := aA (k := 0) HYB.out rfl
    have lx := aC HXB.out
    have ly := aC HYB.out
    go_wp2_with fail
    clear x2 y0 lx ly
    clear c0
    go_loopw [6, 28] (fun v i wr => ∃ (k : Nat) (A' : Option Addr) (n' c' : Nat), k <= m /\ i = .int .i64 k /\ v = .slice A' n' c' /\ Own w.heap.size wr A' n' c' (asc ((src.take k).filter fun x => decide (x ≠ 0))) /\ Below w.heap.size w wr) (fun _ i _ => m - (intOf i).toNat)
    case atStart => exact ⟨0, _, _, _, Nat.zero_le _, rfl, rfl, Own.nil, HB0.out⟩
    case round =>
      obtain ⟨k, A', n', c', hk, rfl, rfl, ho, hb⟩ := hrel
      have HO := Hd ho
      have HBE := Hd hb
      have hol := ho.len
      clear ho hb
      by_cases hlt : k < m
      · have hdk : decide ((k : Int) < (m : Int)) = true := by simp; omega
        obtain ⟨bs, os, rfl, hbs, hcs⟩ := HSR.out.2 (by omega)
        have hck := (HBE.out.cell (p := ⟨bs, os + k, none⟩) hbs).trans (hcs k hlt)
        have lbs := aL HBE.out hbs
        have hkl : k < src.length := by rw [HSR.out.1]; exact hlt
        have hg := j3 (fun x => decide (x ≠ 0)) (src.take k) (src[k]?.getD 0)
        rw [← bJ hkl] at hg
        have HG := Hd hg
        have hl1 := jB ((src.take k).filter fun x => decide (x ≠ 0))
        have hl2 := List.length_filter_le (fun x => decide (x ≠ 0)) (src.take k)
        rw [List.length_take] at hl2
        have hn4 : n' <= 4 := by omega
        clear hg hcs hl1 hl2 hol hkl
        generalize asc ((src.take k).filter fun x => decide (x ≠ 0)) = ys at *
        generalize src[k]?.getD 0 = x at *
        have i0 : (0 : Int) <= (k : Int) := by omega
        have i1 : (k : Int) < (m : Int) := by omega
        by_cases hx : x = 0
        · have HG2 : Hid (asc ((src.take (k + 1)).filter fun x => decide (x ≠ 0)) = ys) := by show _ = _; rw [HG.out, hx]; rfl
          have dx : (x != 0) = false := by simp [hx]
          clear HG hx
          go_wp2_with fail
          go_roundw
          case rel => exact ⟨k + 1, _, _, _, by omega, by go_num, rfl, by rw [HG2.out]; exact HO.out, HBE.out⟩
          case measure => simp [intOf]; omega
        · have HG2 : Hid (asc ((src.take (k + 1)).filter fun x => decide (x ≠ 0)) = ins ys x) := by show _ = _; rw [HG.out]; simp [hx]
          have dx : (x != 0) = true := by simp [hx]
          clear HG hx
          go_wp2_with fail
          refine (iA w.heap.size A' n' c' ys x _ HO.out HBE.out.size (by omega)).mono ?_
          rintro _ w1 ⟨A2, n2, c2, rfl, o2, b2⟩
          have HO2 := Hd o2
          have HB2 := Hd (aB HBE.out b2)
          clear o2 b2 hck lbs
          go_wp2_with fail
          go_roundw
          case rel => exact ⟨k + 1, _, _, _, by omega, by go_num, rfl, by rw [HG2.out]; exact HO2.out, HB2.out⟩
          case measure => simp [intOf]; omega
      · have hkm : k = m := by omega
        have hdk : decide ((k : Int) < (m : Int)) = false := by simp; omega
        have HD : Hid (Own w.heap.size wr A' n' c' (asc (src.filter fun x => decide (x ≠ 0)))) := by
          have h := HO.out
          rwa [hkm, List.take_of_length_le (by rw [HSR.out.1]; exact Nat.le_refl _)] at h
        clear HO hkm
        go_wp2_with fail
        go_ret
        exact ⟨_, _, _, rfl, by rw [HLI.out]; exact HD.out, HBE.out⟩
  · have d0 : decide (a ≥ 0) = false := decide_eq_false h0
    rw [if_neg h0] at hLI hsf
    obtain ⟨X, rfl⟩ : ∃ X : Nat, b = (X : Int) := ⟨b.toNat, by omega⟩
    rw [Int.toNat_natCast] at hLI hsf
    have hX : X < sn := by have := HSL.out; omega
    obtain ⟨bb, ob, S, m, p, rfl, hbb, c0, c1, c2, r2⟩ := HN.out.sq.sq' (k := X) (by rw [HSL.out]; exact hX)
    have lbb := aL HB0.out hbb
    rw [← HB0.out.cell (p := ⟨bb, ob + X * 3 + 2, none⟩) hbb] at c2
    have HSR := Hd r2.ints
    rw [r2.ints.1] at hsf
    have HLI := Hd hLI
    clear c0 c1 r2 hLI e1 e2 e3 he
    generalize (l.seqs[X]?.getD Sq.zero).ins = src at *
    go_enter Tryz.func214, Tryz.ntmps214
    go_upto_region 1 with fail
    generalize (w.alloc (.cells (av l (some ⟨bb, ob, none⟩) LA OA sn sc ln lc on oc) 41)).alloc (.cells #[.int .i64 a, .int .i64 (X : Int)] 94) = W9 at *
    have x1 := aA (k := 1) HXB.out rfl
    have y0 := aA (k := 0) HYB.out rfl
    have y1 := aA (k := 1) HYB.out rfl
    have lx := aC HXB.out
    have ly := aC HYB.out
    go_wp2_with fail
    clear x1 y0 y1 lx ly
    clear c2
    go_loopw [6, 28] (fun v i wr => ∃ (k : Nat) (A' : Option Addr) (n' c' : Nat), k <= m /\ i = .int .i64 k /\ v = .slice A' n' c' /\ Own w.heap.size wr A' n' c' (asc ((src.take k).filter fun x => decide (x ≠ 0))) /\ Below w.heap.size w wr) (fun _ i _ => m - (intOf i).toNat)
    case atStart => exact ⟨0, _, _, _, Nat.zero_le _, rfl, rfl, Own.nil, HB0.out⟩
    case round =>
      obtain ⟨k, A', n', c', hk, rfl, rfl, ho, hb⟩ := hrel
      have HO := Hd ho
      have HBE := Hd hb
      have hol := ho.len
      clear ho hb
      by_cases hlt : k < m
      · have hdk : decide ((k : Int) < (m : Int)) = true := by simp; omega
        obtain ⟨bs, os, rfl, hbs, hcs⟩ := HSR.out.2 (by omega)
        have hck := (HBE.out.cell (p := ⟨bs, os + k, none⟩) hbs).trans (hcs k hlt)
        have lbs := aL HBE.out hbs
        have hkl : k < src.length := by rw [HSR.out.1]; exact hlt
        have hg := j3 (fun x => decide (x ≠ 0)) (src.take k) (src[k]?.getD 0)
        rw [← bJ hkl] at hg
        have HG := Hd hg
        have hl1 := jB ((src.take k).filter fun x => decide (x ≠ 0))
        have hl2 := List.length_filter_le (fun x => decide (x ≠ 0)) (src.take k)
        rw [List.length_take] at hl2
        have hn4 : n' <= 4 := by omega
        clear hg hcs hl1 hl2 hol hkl
        generalize asc ((src.take k).filter fun x => decide (x ≠ 0)) = ys at *
        generalize src[k]?.getD 0 = x at *
        have i0 : (0 : Int) <= (k : Int) := by omega
        have i1 : (k : Int) < (m : Int) := by omega
        by_cases hx : x = 0
        · have HG2 : Hid (asc ((src.take (k + 1)).filter fun x => decide (x ≠ 0)) = ys) := by show _ = _; rw [HG.out, hx]; rfl
          have dx : (x != 0) = false := by simp [hx]
          clear HG hx
          go_wp2_with fail
          go_roundw
          case rel => exact ⟨k + 1, _, _, _, by omega, by go_num, rfl, by rw [HG2.out]; exact HO.out, HBE.out⟩
          case measure => simp [intOf]; omega
        · have HG2 : Hid (asc ((src.take (k + 1)).filter fun x => decide (x ≠ 0)) = ins ys x) := by show _ = _; rw [HG.out]; simp [hx]
          have dx : (x != 0) = true := by simp [hx]
          clear HG hx
          go_wp2_with fail
          refine (iA w.heap.size A' n' c' ys x _ HO.out HBE.out.size (by omega)).mono ?_
          rintro _ w1 ⟨A2, n2, c2, rfl, o2, b2⟩
          have HO2 := Hd o2
          have HB2 := Hd (aB HBE.out b2)
          clear o2 b2 hck lbs
          go_wp2_with fail
          go_roundw
          case rel => exact ⟨k + 1, _, _, _, by omega, by go_num, rfl, by rw [HG2.out]; exact HO2.out, HB2.out⟩
          case measure => simp [intOf]; omega
      · have hkm : k = m := by omega
        have hdk : decide ((k : Int) < (m : Int)) = false := by simp; omega
        have HD : Hid (Own w.heap.size wr A' n' c' (asc (src.filter fun x => decide (x ≠ 0)))) := by
          have h := HO.out
          rwa [hkm, List.take_of_length_le (by rw [HSR.out.1]; exact Nat.le_refl _)] at h
        clear HO hkm
        go_wp2_with fail
        go_ret
        exact ⟨_, _, _, rfl, by rw [HLI.out]; exact HD.out, HBE.out⟩
theorem tN (l:ai) (SA LA OA:Option Addr) (sn sc ln lc on oc:Nat) (kd it:Int) (es:List LeT) (EA:Option Addr) (en ec:Nat) (w:World) (h:fI w l SA LA OA sn sc ln lc on oc) (hf:bB l) (hE:RdC w w.heap.size (dF es) (.slice EA en ec)) (hK:dD l ⟨kd,it,es⟩) (hen:en<=1048576) :
  Calls Tryz.prog 126 #[iD l SA LA OA sn sc ln lc on oc,.agg #[.int .i64 kd,.int .i64 it,.slice EA en ec]] w fun e w'=>∃A n c,e = .returned (.slice A n c)/\Own w.heap.size w' A n c (iw l ⟨kd,it,es⟩)/\Below w.heap.size w w':=by
 have hel:=hE.esN
 have HE:=Hd hE
 have HEL:=Hd hel
 clear hE
 have HB0:=Hd (aF (aF (Below.refl w.heap.size w) (.cells (av l SA LA OA sn sc ln lc on oc) 41)) (.cells #[.int .i64 kd,.int .i64 it,.slice EA en ec] 89))
 have hx:=bg (.cells #[.int .i64 kd,.int .i64 it,.slice EA en ec] 89) (aK w (.cells (av l SA LA OA sn sc ln lc on oc) 41))
 have hy:=aK (w.alloc (.cells (av l SA LA OA sn sc ln lc on oc) 41)) (.cells #[.int .i64 kd,.int .i64 it,.slice EA en ec] 89)
 simp only [World.size_alloc] at hy
 have HXB:=Hd hx
 have HYB:=Hd hy
 clear hx hy
 obtain ⟨hsl,hll,hol⟩:=h.lens
 have hsn:=hf.nseq
 have hln:=hf.nlut
 have hon:=hf.nout
 have hin:=hf.inp
 rw [hsl] at hsn
 rw [hll] at hln
 rw [hol] at hon
 have HN:=Hd h
 have HF:=Hd hf
 have HSL:=Hd hsl
 have HLL:=Hd hll
 have HOL:=Hd hol
 have HFI:Hid ((l.first:Int)=1+l.inputs+(sn:Int)):=by show _=_;unfold ai.first;omega
 have HCO:Hid ((l.count:Int)=1+l.inputs+(sn:Int)+(ln:Int)):=by show _=_;unfold ai.count ai.first;omega
 clear h hf hsl hll hol
 by_cases k0:kd=0
 ·subst k0
  have HR:Hid (iw l ⟨0,it,es⟩=[1+it]):=rfl
  have hit:0<=it/\it<l.inputs:=lT.1 hK
  go_enter Tryz.func126,Tryz.ntmps126
  go_upto_region 1 with fail
  generalize (w.alloc (.cells (av l SA LA OA sn sc ln lc on oc) 41)).alloc (.cells #[.int .i64 0,.int .i64 it,.slice EA en ec] 89)=W9 at *
  have x0:=aA (k:=0) HXB.out rfl
  have y0:=aA (k:=0) HYB.out rfl
  have y1:=aA (k:=1) HYB.out rfl
  have lx:=aC HXB.out
  have ly:=aC HYB.out
  go_wp2_with fail
  go_ret
  refine ⟨_,_,_,rfl,?_,aB HB0.out (aF (Below.refl _ _) _)⟩
  rw [HR.out]
  exact Own.made (cur:=#[.int .i64 (1+it)]) (aK W9 _) HB0.out.size (by unfold maxLen;omega) rfl rfl
 ·by_cases k1:kd=1
  ·subst k1
   have HR:Hid (iw l ⟨1,it,es⟩=[]):=rfl
   go_enter Tryz.func126,Tryz.ntmps126
   go_upto_region 1 with fail
   generalize (w.alloc (.cells (av l SA LA OA sn sc ln lc on oc) 41)).alloc (.cells #[.int .i64 1,.int .i64 it,.slice EA en ec] 89)=W9 at *
   have x0:=aA (k:=0) HXB.out rfl
   have y0:=aA (k:=0) HYB.out rfl
   have y1:=aA (k:=1) HYB.out rfl
   have lx:=aC HXB.out
   have ly:=aC HYB.out
   go_wp2_with fail
   go_ret
   exact ⟨_,_,_,rfl,by rw [HR.out];exact Own.nil,HB0.out⟩
  ·by_cases k2:kd=2
   ·subst k2
    have HR:Hid (iw l ⟨2,it,es⟩=[1+l.inputs+it]):=rfl
    have hit:0<=it/\it<(sn:Int):=by rw [←HSL.out];exact jG.1 hK
    go_enter Tryz.func126,Tryz.ntmps126
    go_upto_region 1 with fail
    generalize (w.alloc (.cells (av l SA LA OA sn sc ln lc on oc) 41)).alloc (.cells #[.int .i64 2,.int .i64 it,.slice EA en ec] 89)=W9 at *
    have x0:=aA (k:=0) HXB.out rfl
    have y0:=aA (k:=0) HYB.out rfl
    have y1:=aA (k:=1) HYB.out rfl
    have lx:=aC HXB.out
    have ly:=aC HYB.out
    go_wp2_with fail
    go_ret
    refine ⟨_,_,_,rfl,?_,aB HB0.out (aF (Below.refl _ _) _)⟩
    rw [HR.out]
    exact Own.made (cur:=#[.int .i64 (1+l.inputs+it)]) (aK W9 _) HB0.out.size (by unfold maxLen;omega) rfl rfl
   ·have k3:kd=3:=by have:=gm hK;omega
    subst k3
    clear k0 k1 k2
    have HR:Hid (iw l ⟨3,it,es⟩=es.map (dP l)):=rfl
    have HKN:Hid (∀e∈es,dM l e):=jb.1 hK
    clear hK
    have HXW:=HXB
    go_enter Tryz.func126,Tryz.ntmps126
    go_upto_region 1 with fail
    generalize (w.alloc (.cells (av l SA LA OA sn sc ln lc on oc) 41)).alloc (.cells #[.int .i64 3,.int .i64 it,.slice EA en ec] 89)=W9 at *
    have x0:=aA (k:=0) HXB.out rfl
    have y0:=aA (k:=0) HYB.out rfl
    have y1:=aA (k:=1) HYB.out rfl
    have y2:=aA (k:=2) HYB.out rfl
    have lx:=aC HXB.out
    have ly:=aC HYB.out
    go_wp2_with fail
    clear x0 y0 y1 y2 lx ly
    go_loopw [5,30] (fun v i wr=>∃(k:Nat) (A':Option Addr) (c':Nat),k<=en/\i = .int .i64 k/\v = .slice A' k c'/\aM W9 wr [.cel (aJ ((es.take k).map (dP l))) (.slice A' k c')]) (fun _ i _=>en - (intOf i).toNat)
    case atStart=>exact ⟨0,none,0,Nat.zero_le _,rfl,rfl,(aM.refl W9).pushNil 3 1⟩
    case round =>
     obtain ⟨k,A',c',hk,rfl,rfl,hs⟩:=hrel
     have HS:=Hd hs
     clear hs
     by_cases hlt:k<en
     ·have hdk:decide ((k:Int)<(en:Int))=true:=by simp;omega
      have hkl:k<es.length:=by rw [HEL.out];exact hlt
      obtain ⟨be,oe,rfl,hbe,c0,c1⟩:=HE.out.es (k:=k) hkl
      have hBW:=aB HB0.out HS.out.bel
      have lbe:=aL hBW hbe
      rw [←hBW.cell (p:=⟨be,oe+k * 2,none⟩) hbe] at c0
      rw [←hBW.cell (p:=⟨be,oe+k * 2+1,none⟩) hbe] at c1
      clear hBW
      have HEF:=Hd (HKN.out _ (List.getElem_mem hkl))
      have HTK:Hid ((es.take (k+1)).map (dP l)=(es.take k).map (dP l)++[dP l ⟨(es[k]?.getD LeT.zero).lut,(es[k]?.getD LeT.zero).ff⟩]):=by show _=_;rw [bJ (z:=LeT.zero) hkl,List.map_append];rfl
      rw [show es[k]=es[k]?.getD LeT.zero by rw [List.getElem?_eq_getElem hkl];rfl] at HEF
      clear hkl
      generalize es[k]?.getD LeT.zero=e at *
      have hx:=aD (aF (Below.refl wr.heap.size wr) (.cells #[.int .i64 e.lut,.int .i64 e.ff] 94)) (aD HS.out.bel HXW.out)
      have x0:=aA (k:=0) hx rfl
      have x1:=aA (k:=1) hx rfl
      have x2:=aA (k:=2) hx rfl
      have x3:=aA (k:=3) hx rfl
      have lx:=aC hx
      have hq:=aK wr (.cells #[.int .i64 e.lut,.int .i64 e.ff] 94)
      have q0:=aA (k:=0) hq rfl
      have q1:=aA (k:=1) hq rfl
      have lq:=aC hq
      have i0:(0:Int)<=(k:Int):=by omega
      have i1:(k:Int)<(en:Int):=by omega
      have HSA:=Hd (HS.out.alloc (.cells #[.int .i64 e.lut,.int .i64 e.ff] 94))
      clear hx hq
      go_wp2_with fail
      refine (oN l SA LA OA sn sc ln lc on oc e.lut e.ff _ (HN.out.below (aB HB0.out HSA.out.bel)) HF.out HEF.out).mono ?_
      rintro _ w1 ⟨rfl,b1⟩
      have HS1:=Hd (HSA.out.below b1)
      clear b1 x0 x1 x2 x3 lx q0 q1 lq c0 c1
      generalize dP l ⟨e.lut,e.ff⟩=Y at *
      go_wp2_with (at_builtin;refine fB rfl _ _ rfl _ (HS1.out.alloc _) 0 A' k c' ((es.take k).map (dP l)) Y _ (0,0) rfl rfl rfl (aK _ _) (by omega) ?_;intro g9 cap w9 S9 hz9;have HS9:=Hd S9;clear S9 hz9)
      go_roundw
      case rel=>exact ⟨k+1,_,_,by omega,by go_num,rfl,by rw [HTK.out];exact HS9.out⟩
      case measure=>simp [intOf];omega
     ·have hkm:k=en:=by omega
      have hdk:decide ((k:Int)<(en:Int))=false:=by simp;omega
      have HD:Hid (aM W9 wr [.cel (aJ (es.map (dP l))) (.slice A' en c')]):=by
       have h:=HS.out
       rwa [hkm,List.take_of_length_le (by rw [HEL.out];exact Nat.le_refl _)] at h
      subst hkm
      clear HS
      go_wp2_with fail
      go_ret
      exact ⟨_,_,_,rfl,by rw [HR.out];exact (HD.out.owned 0 rfl).more HB0.out.size,aB HB0.out HD.out.bel⟩
theorem mX (l : ai) (SA LA OA : Option Addr) (sn sc ln lc on oc : Nat) (kd it : Int) (es : List LeT) (EA : Option Addr) (en ec : Nat) (w : World) (h : fI w l SA LA OA sn sc ln lc on oc) (hf : bB l) (hE : RdC w w.heap.size (dF es) (.slice EA en ec)) (hK : dD l ⟨kd, it, es⟩) (hen : en <= 100000) :
    Calls Tryz.prog 125 #[iD l SA LA OA sn sc ln lc on oc, .agg #[.int .i64 kd, .int .i64 it, .slice EA en ec]] w fun e w' => ∃ A n c, e = .returned (.slice A n c) /\ Own w.heap.size w' A n c (gV l ⟨kd, it, es⟩) /\ Below w.heap.size w w' := by
  have hel := hE.esN
  have HE := Hd hE
  have HEL := Hd hel
  clear hE
  have HB0 := Hd (aF (aF (Below.refl w.heap.size w) (.cells (av l SA LA OA sn sc ln lc on oc) 41)) (.cells #[.int .i64 kd, .int .i64 it, .slice EA en ec] 89))
  have hx := bg (.cells #[.int .i64 kd, .int .i64 it, .slice EA en ec] 89) (aK w (.cells (av l SA LA OA sn sc ln lc on oc) 41))
  have hy := aK (w.alloc (.cells (av l SA LA OA sn sc ln lc on oc) 41)) (.cells #[.int .i64 kd, .int .i64 it, .slice EA en ec] 89)
  simp only [World.size_alloc] at hy
  have HXB := Hd hx
  have HYB := Hd hy
  clear hx hy
  obtain ⟨hsl, hll, hol⟩ := h.lens
  have hsn := hf.nseq
  have hln := hf.nlut
  have hon := hf.nout
  have hin := hf.inp
  rw [hsl] at hsn
  rw [hll] at hln
  rw [hol] at hon
  have HN := Hd h
  have HF := Hd hf
  have HSL := Hd hsl
  have HLL := Hd hll
  have HOL := Hd hol
  have HFI : Hid ((l.first : Int) = 1 + l.inputs + (sn : Int)) := by show _ = _; unfold ai.first; omega
  have HCO : Hid ((l.count : Int) = 1 + l.inputs + (sn : Int) + (ln : Int)) := by show _ = _; unfold ai.count ai.first; omega
  clear h hf hsl hll hol
  by_cases k0 : kd = 0
  · subst k0
    have HR : Hid (gV l ⟨0, it, es⟩ = []) := rfl
    go_enter Tryz.func125, Tryz.ntmps125
    go_upto_region 1 with fail
    generalize (w.alloc (.cells (av l SA LA OA sn sc ln lc on oc) 41)).alloc (.cells #[.int .i64 0, .int .i64 it, .slice EA en ec] 89) = W9 at *
    have x0 := aA (k := 0) HXB.out rfl
    have y0 := aA (k := 0) HYB.out rfl
    have y1 := aA (k := 1) HYB.out rfl
    have lx := aC HXB.out
    have ly := aC HYB.out
    go_wp2_with fail
    go_ret
    exact ⟨_, _, _, rfl, by rw [HR.out]; exact Own.nil, HB0.out⟩
  · by_cases k1 : kd = 1
    · subst k1
      have HR : Hid (gV l ⟨1, it, es⟩ = [l.outs[it.toNat]?.getD 0]) := rfl
      have hit := lU.1 hK
      rw [HOL.out] at hit
      obtain ⟨X, rfl⟩ : ∃ X : Nat, it = (X : Int) := ⟨it.toNat, by omega⟩
      rw [Int.toNat_natCast] at HR
      have hX : X < on := by omega
      obtain ⟨bo, oo, rfl, hbo, hco⟩ := HN.out.ou.ints.2 (by omega)
      have co := hco X hX
      have lbo := aL HB0.out hbo
      rw [← HB0.out.cell (p := ⟨bo, oo + X, none⟩) hbo] at co
      clear hco hK
      generalize l.outs[X]?.getD 0 = y at *
      go_enter Tryz.func125, Tryz.ntmps125
      go_upto_region 1 with fail
      generalize (w.alloc (.cells (av l SA LA (some ⟨bo, oo, none⟩) sn sc ln lc on oc) 41)).alloc (.cells #[.int .i64 1, .int .i64 (X : Int), .slice EA en ec] 89) = W9 at *
      have x3 := aA (k := 3) HXB.out rfl
      have y0 := aA (k := 0) HYB.out rfl
      have y1 := aA (k := 1) HYB.out rfl
      have lx := aC HXB.out
      have ly := aC HYB.out
      go_wp2_with fail
      go_ret
      refine ⟨_, _, _, rfl, ?_, aB HB0.out (aF (Below.refl _ _) _)⟩
      rw [HR.out]
      exact Own.made (cur := #[.int .i64 (y)]) (aK W9 _) HB0.out.size (by unfold maxLen; omega) rfl rfl
    · by_cases k2 : kd = 2
      · subst k2
        have HR : Hid (gV l ⟨2, it, es⟩ = (l.seqs[it.toNat]?.getD Sq.zero).ins) := rfl
        have hit := jG.1 hK
        rw [HSL.out] at hit
        obtain ⟨X, rfl⟩ : ∃ X : Nat, it = (X : Int) := ⟨it.toNat, by omega⟩
        rw [Int.toNat_natCast] at HR
        have hX : X < sn := by omega
        obtain ⟨bb, ob, S, m, p, rfl, hbb, c0, c1, c2, r2⟩ := HN.out.sq.sq' (k := X) (by rw [HSL.out]; exact hX)
        have lbb := aL HB0.out hbb
        rw [← HB0.out.cell (p := ⟨bb, ob + X * 3 + 2, none⟩) hbb] at c2
        have hm4 : m <= 4 := by
          have h1 := (HF.out.seqs X (by rw [HSL.out]; exact hX)).1
          have h2 := r2.ints.1
          rcases h1 with h | h <;> omega
        have HSR := Hd r2.ints
        clear c0 c1 r2 hK
        generalize (l.seqs[X]?.getD Sq.zero).ins = src at *
        go_enter Tryz.func125, Tryz.ntmps125
        go_upto_region 1 with fail
        generalize (w.alloc (.cells (av l (some ⟨bb, ob, none⟩) LA OA sn sc ln lc on oc) 41)).alloc (.cells #[.int .i64 2, .int .i64 (X : Int), .slice EA en ec] 89) = W9 at *
        have x1 := aA (k := 1) HXB.out rfl
        have y0 := aA (k := 0) HYB.out rfl
        have y1 := aA (k := 1) HYB.out rfl
        have lx := aC HXB.out
        have ly := aC HYB.out
        go_wp2_with fail
        refine (tH S m p src _ (HSR.out.below HB0.out) (by omega)).mono ?_
        rintro _ w1 ⟨A1, c1, rfl, o1, b1⟩
        have HO1 := Hd (o1.more HB0.out.size)
        have HB1 := Hd (aB HB0.out b1)
        clear o1 b1
        go_wp2_with fail
        go_ret
        exact ⟨_, _, _, rfl, by rw [HR.out]; exact HO1.out, HB1.out⟩
      · have k3 : kd = 3 := by have := gm hK; omega
        subst k3
        clear k0 k1 k2
        have HR : Hid (gV l ⟨3, it, es⟩ = kX l es) := rfl
        have HKN : Hid (∀ e ∈ es, dM l e) := jb.1 hK
        clear hK
        have HXW := HXB
        go_enter Tryz.func125, Tryz.ntmps125
        go_upto_region 1 with fail
        generalize (w.alloc (.cells (av l SA LA OA sn sc ln lc on oc) 41)).alloc (.cells #[.int .i64 3, .int .i64 it, .slice EA en ec] 89) = W9 at *
        have x0 := aA (k := 0) HXB.out rfl
        have y0 := aA (k := 0) HYB.out rfl
        have y1 := aA (k := 1) HYB.out rfl
        have y2 := aA (k := 2) HYB.out rfl
        have lx := aC HXB.out
        have ly := aC HYB.out
        go_wp2_with fail
        clear x0 y0 y1 y2 lx ly
        go_loopw [5, 39] (fun v i wr => ∃ (k : Nat) (A' : Option Addr) (c' : Nat), k <= en /\ i = .int .i64 k /\ v = .slice A' k c' /\ aM W9 wr [.cel (aJ ((es.take k).map (dP l))) (.slice A' k c')]) (fun _ i _ => en - (intOf i).toNat)
        case atStart => exact ⟨0, none, 0, Nat.zero_le _, rfl, rfl, (aM.refl W9).pushNil 3 1⟩
        case round =>
          obtain ⟨k, A', c', hk, rfl, rfl, hs⟩ := hrel
          have HS := Hd hs
          clear hs
          by_cases hlt : k < en
          · have hdk : decide ((k : Int) < (en : Int)) = true := by simp; omega
            have hkl : k < es.length := by rw [HEL.out]; exact hlt
            obtain ⟨be, oe, rfl, hbe, c0, c1⟩ := HE.out.es (k := k) hkl
            have hBW := aB HB0.out HS.out.bel
            have lbe := aL hBW hbe
            rw [← hBW.cell (p := ⟨be, oe + k * 2, none⟩) hbe] at c0
            rw [← hBW.cell (p := ⟨be, oe + k * 2 + 1, none⟩) hbe] at c1
            clear hBW
            have HEF := Hd (HKN.out _ (List.getElem_mem hkl))
            have HTK : Hid ((es.take (k + 1)).map (dP l) = (es.take k).map (dP l) ++ [dP l ⟨(es[k]?.getD LeT.zero).lut, (es[k]?.getD LeT.zero).ff⟩]) := by show _ = _; rw [bJ (z := LeT.zero) hkl, List.map_append]; rfl
            rw [show es[k] = es[k]?.getD LeT.zero by rw [List.getElem?_eq_getElem hkl]; rfl] at HEF
            clear hkl
            generalize es[k]?.getD LeT.zero = e at *
            have hx := aD (aF (Below.refl wr.heap.size wr) (.cells #[.int .i64 e.lut, .int .i64 e.ff] 94)) (aD HS.out.bel HXW.out)
            have x0 := aA (k := 0) hx rfl
            have x1 := aA (k := 1) hx rfl
            have x2 := aA (k := 2) hx rfl
            have x3 := aA (k := 3) hx rfl
            have lx := aC hx
            have hq := aK wr (.cells #[.int .i64 e.lut, .int .i64 e.ff] 94)
            have q0 := aA (k := 0) hq rfl
            have q1 := aA (k := 1) hq rfl
            have lq := aC hq
            have i0 : (0 : Int) <= (k : Int) := by omega
            have i1 : (k : Int) < (en : Int) := by omega
            have HSA := Hd (HS.out.alloc (.cells #[.int .i64 e.lut, .int .i64 e.ff] 94))
            clear hx hq
            go_wp2_with fail
            refine (oN l SA LA OA sn sc ln lc on oc e.lut e.ff _ (HN.out.below (aB HB0.out HSA.out.bel)) HF.out HEF.out).mono ?_
            rintro _ w1 ⟨rfl, b1⟩
            have HS1 := Hd (HSA.out.below b1)
            clear b1 x0 x1 x2 x3 lx q0 q1 lq c0 c1
            generalize dP l ⟨e.lut, e.ff⟩ = Y at *
            go_wp2_with (at_builtin; refine fB rfl _ _ rfl _ (HS1.out.alloc _) 0 A' k c' ((es.take k).map (dP l)) Y _ (0, 0) rfl rfl rfl (aK _ _) (by omega) ?_; intro g9 cap w9 S9 hz9; have HS9 := Hd S9; clear S9 hz9)
            go_roundw
            case rel => exact ⟨k + 1, _, _, by omega, by go_num, rfl, by rw [HTK.out]; exact HS9.out⟩
            case measure => simp [intOf]; omega
          · have hkm : k = en := by omega
            have hdk : decide ((k : Int) < (en : Int)) = false := by simp; omega
            have HD : Hid (aM W9 wr [.cel (aJ (es.map (dP l))) (.slice A' en c')]) := by
              have h := HS.out
              rwa [hkm, List.take_of_length_le (by rw [HEL.out]; exact Nat.le_refl _)] at h
            subst hkm
            clear HS
            have HW9 := Hd HD.out.bel
            have HBO := Hd (aB HB0.out HD.out.bel)
            have HOU := Hd (HD.out.ints 0 rfl)
            have y2 := aA (k := 2) (aD HD.out.bel HYB.out) rfl
            have ly := aC (aD HD.out.bel HYB.out)
            clear HD
            obtain ⟨wo, rfl⟩ : ∃ y, y = wr := ⟨wr, rfl⟩
            obtain ⟨OB, rfl⟩ : ∃ x, x = A' := ⟨A', rfl⟩
            obtain ⟨ouc, rfl⟩ : ∃ x, x = c' := ⟨c', rfl⟩
            obtain ⟨en, rfl⟩ : ∃ x, x = k := ⟨k, rfl⟩
            go_wp2_with fail
            clear y2 ly
            go_loopw [6, 53] (fun v i wr => ∃ (k : Nat) (A' : Option Addr) (n' c' : Nat), k <= en /\ i = .int .i64 k /\ v = .slice A' n' c' /\ Own w.heap.size wr A' n' c' (asc (((es.take k).flatMap (fq l)).filter fun x => decide (x ∉ es.map (dP l)))) /\ Below wo.heap.size wo wr) (fun _ i _ => en - (intOf i).toNat)
            case atStart => exact ⟨0, _, _, _, Nat.zero_le _, rfl, rfl, Own.nil, Below.refl _ _⟩
            case round =>
              obtain ⟨k, A', n', c', hk, rfl, rfl, ho, hb⟩ := hrel
              have HO := Hd ho
              have HBE := Hd hb
              have hB := Hd (aB HBO.out hb)
              clear ho hb
              by_cases hlt : k < en
              · have hdk : decide ((k : Int) < (en : Int)) = true := by simp; omega
                have hkl : k < es.length := by rw [HEL.out]; exact hlt
                obtain ⟨be, oe, rfl, hbe, c0, c1⟩ := HE.out.es (k := k) hkl
                have lbe := aL hB.out hbe
                rw [← hB.out.cell (p := ⟨be, oe + k * 2, none⟩) hbe] at c0
                rw [← hB.out.cell (p := ⟨be, oe + k * 2 + 1, none⟩) hbe] at c1
                have HEF := Hd (HKN.out _ (List.getElem_mem hkl))
                have HTK := Hd (show (es.take (k + 1)).flatMap (fq l) = (es.take k).flatMap (fq l) ++ fq l ⟨(es[k]?.getD LeT.zero).lut, (es[k]?.getD LeT.zero).ff⟩ from by rw [bJ (z := LeT.zero) hkl, List.flatMap_append, List.flatMap_singleton])
                have HBD : Hid (((es.take k).flatMap (fq l)).length <= 4 * k) := by
                  show _ <= _
                  have h := jo (f := fq l) (m := 4) (xs := es.take k) fun e he => (lW HF.out (HKN.out e (List.mem_of_mem_take he))).1
                  rw [List.length_take] at h
                  have h2 : min k es.length * 4 <= k * 4 := Nat.mul_le_mul_right 4 (Nat.min_le_left _ _)
                  omega
                rw [show es[k] = es[k]?.getD LeT.zero by rw [List.getElem?_eq_getElem hkl]; rfl] at HEF
                have HI4 := Hd (lW HF.out HEF.out).1
                clear hkl
                generalize es[k]?.getD LeT.zero = e at *
                have hx := aD (aF (Below.refl wr.heap.size wr) (.cells #[.int .i64 e.lut, .int .i64 e.ff] 94)) (aD (aB HW9.out HBE.out) HXB.out)
                have x0 := aA (k := 0) hx rfl
                have x1 := aA (k := 1) hx rfl
                have x2 := aA (k := 2) hx rfl
                have x3 := aA (k := 3) hx rfl
                have lx := aC hx
                have hq := aK wr (.cells #[.int .i64 e.lut, .int .i64 e.ff] 94)
                have q0 := aA (k := 0) hq rfl
                have q1 := aA (k := 1) hq rfl
                have lq := aC hq
                have i0 : (0 : Int) <= (k : Int) := by omega
                have i1 : (k : Int) < (en : Int) := by omega
                have HBA := Hd (aF HBE.out (.cells #[.int .i64 e.lut, .int .i64 e.ff] 94))
                have HOA := Hd (HO.out.below (aF (Below.refl _ _) (.cells #[.int .i64 e.lut, .int .i64 e.ff] 94)))
                clear hx hq
                go_wp2_with fail
                refine (tL l SA LA OA sn sc ln lc on oc e.lut e.ff _ (HN.out.below (aB HBO.out HBA.out)) HF.out HEF.out).mono ?_
                rintro _ w1 ⟨IA, m, ic, rfl, oi, b1⟩
                have HOI := Hd oi.ints
                have HB1 := Hd (aB HBA.out b1)
                have HO1 := Hd (HOA.out.below b1)
                clear b1 oi x0 x1 x2 x3 lx q0 q1 lq c0 c1
                have hm4 : m <= 4 := by rw [← HOI.out.1]; exact HI4.out
                generalize fq l ⟨e.lut, e.ff⟩ = src at *
                generalize (es.take k).flatMap (fq l) = BS at *
                go_wp2_with fail
                go_loopw [6, 61] (fun v i wr => ∃ (j : Nat) (A' : Option Addr) (n' c' : Nat), j <= m /\ i = .int .i64 j /\ v = .slice A' n' c' /\ Own w.heap.size wr A' n' c' (asc ((BS ++ src.take j).filter fun x => decide (x ∉ es.map (dP l)))) /\ Below w1.heap.size w1 wr) (fun _ i _ => m - (intOf i).toNat)
                case atStart => exact ⟨0, _, _, _, Nat.zero_le _, rfl, rfl, by rw [List.take_zero, List.append_nil]; exact HO1.out, Below.refl _ _⟩
                case round =>
                  obtain ⟨j, A3, n3, c3, hj, rfl, rfl, ho, hb⟩ := hrel
                  have HO3 := Hd ho
                  have HB3 := Hd hb
                  have hol := ho.len
                  clear ho hb
                  by_cases hltj : j < m
                  · have hdj : decide ((j : Int) < (m : Int)) = true := by simp; omega
                    obtain ⟨bs, os, rfl, hbs, hcs⟩ := HOI.out.2 (by omega)
                    have hck := (HB3.out.cell (p := ⟨bs, os + j, none⟩) hbs).trans (hcs j hltj)
                    have lbs := aL HB3.out hbs
                    have hjl : j < src.length := by rw [HOI.out.1]; exact hltj
                    have hg := j3 (fun x => decide (x ∉ es.map (dP l))) (BS ++ src.take j) (src[j]?.getD 0)
                    rw [List.append_assoc, ← bJ hjl] at hg
                    have HG := Hd hg
                    have hl1 := jB ((BS ++ src.take j).filter fun x => decide (x ∉ es.map (dP l)))
                    have hl2 := List.length_filter_le (fun x => decide (x ∉ es.map (dP l))) (BS ++ src.take j)
                    rw [List.length_append, List.length_take] at hl2
                    have hbd := HBD.out
                    have hn4 : n3 <= 1048576 := by omega
                    clear hg hcs hl1 hl2 hol hjl hbd
                    generalize asc ((BS ++ src.take j).filter fun x => decide (x ∉ es.map (dP l))) = ys at *
                    generalize src[j]?.getD 0 = x at *
                    have i2 : (0 : Int) <= (j : Int) := by omega
                    have i3 : (j : Int) < (m : Int) := by omega
                    go_wp2_with fail
                    refine (kT OB en ouc (es.map (dP l)) x _ (HOU.out.below (aB HB1.out HB3.out)) (by omega)).mono ?_
                    rintro _ w2 ⟨rfl, rfl⟩
                    by_cases hx : x ∈ es.map (dP l)
                    · have HG2 : Hid (asc ((BS ++ src.take (j + 1)).filter fun x => decide (x ∉ es.map (dP l))) = ys) := by show _ = _; rw [HG.out, if_neg (by simp only [decide_eq_true_eq]; exact fun h => h hx)]
                      rw [decide_eq_true hx]
                      clear HG hx
                      go_wp2_with fail
                      go_roundw
                      case rel => exact ⟨j + 1, _, _, _, by omega, by go_num, rfl, by rw [HG2.out]; exact HO3.out, HB3.out⟩
                      case measure => simp [intOf]; omega
                    · have HG2 : Hid (asc ((BS ++ src.take (j + 1)).filter fun x => decide (x ∉ es.map (dP l))) = ins ys x) := by show _ = _; rw [HG.out, if_pos (decide_eq_true hx)]
                      rw [decide_eq_false hx]
                      clear HG hx
                      go_wp2_with fail
                      refine (iA w.heap.size A3 n3 c3 ys x _ HO3.out (by have h1 := HB1.out.size; have h2 := HB3.out.size; have h3 := HBO.out.size; omega) (by omega)).mono ?_
                      rintro _ w4 ⟨A2, n2, c2, rfl, o2, b2⟩
                      have HO2 := Hd o2
                      have HB2 := Hd (aB HB3.out b2)
                      clear o2 b2 hck lbs
                      go_wp2_with fail
                      go_roundw
                      case rel => exact ⟨j + 1, _, _, _, by omega, by go_num, rfl, by rw [HG2.out]; exact HO2.out, HB2.out⟩
                      case measure => simp [intOf]; omega
                  · have hjm : j = m := by omega
                    have hdj : decide ((j : Int) < (m : Int)) = false := by simp; omega
                    have HD : Hid (Own w.heap.size wr A3 n3 c3 (asc (((es.take (k + 1)).flatMap (fq l)).filter fun x => decide (x ∉ es.map (dP l))))) := by
                      have h := HO3.out
                      rw [HTK.out]
                      rwa [hjm, List.take_of_length_le (by rw [HOI.out.1]; exact Nat.le_refl _)] at h
                    clear HO3 hjm
                    go_wp2_with fail
                    go_roundw
                    case rel => exact ⟨k + 1, _, _, _, by omega, by go_num, rfl, HD.out, aB HB1.out HB3.out⟩
                    case measure => simp [intOf]; omega
              · have hkm : k = en := by omega
                have hdk : decide ((k : Int) < (en : Int)) = false := by simp; omega
                have HD : Hid (Own w.heap.size wr A' n' c' (kX l es)) := by
                  have h := HO.out
                  rwa [hkm, List.take_of_length_le (by rw [HEL.out]; exact Nat.le_refl _)] at h
                clear HO hkm
                go_wp2_with fail
                go_ret
                exact ⟨_, _, _, rfl, by rw [HR.out]; exact HD.out, hB.out⟩
end Go.Proofs.YtofihjoanjkdmaaGreat
