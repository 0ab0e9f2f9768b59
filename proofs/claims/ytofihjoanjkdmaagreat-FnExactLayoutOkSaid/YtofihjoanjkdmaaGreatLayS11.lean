/- Routing nodes of pins in the reference. -/
import Derived.Test.YtofihjoanjkdmaaGreatLayG4
import Derived.Test.YtofihjoanjkdmaaGreatNmB
import Derived.Test.YtofihjoanjkdmaaGreatRtS
namespace Go.Proofs.YtofihjoanjkdmaaGreat
set_option maxHeartbeats 4000000
set_option maxRecDepth 100000
open Go.RowKit
theorem mH (d:Dev) (t:Int) (w:World) :
  Calls Tryz.prog 113 #[.agg #[.int .i64 d.W,.int .i64 d.H,.int .i64 d.T,.int .i64 d.R],.int .i64 t] w fun e w'=>e = .returned (.int .i64 (jd d t))/\Below w.heap.size w w':=by
 by_cases hb:t<=1099511627776
 ·cases ht:au d t with
  | false =>
   have h:=nM d t w ht hb
   rwa [show jd d t=-1 by unfold jd;rw [ht];rfl]
  | true =>
   have h:=fM d t w ht
   rwa [show jd d t=bA d t by unfold jd;rw [if_pos ht]]
 ·have HR:Hid (jd d t=-1):=by
   show _=_
   unfold jd
   rw [if_neg]
   intro h
   obtain ⟨hd,h0,h1⟩:=aW.1 h
   have:=eG hd
   omega
  go_enter Tryz.func113,Tryz.ntmps113
  go_wp2_with fail
  refine (gH d _).mono ?_
  rintro e w1 ⟨rfl,b1⟩
  obtain ⟨hcc,hff⟩:=bI b1
  have B1:=Hd (aB (aF (Below.refl _ _) _) b1)
  clear b1
  cases hd:dQ d with
  | false =>
   clear hd
   go_wp2_with fail
   go_ret
   exact ⟨aQ HR.out.symm,B1.out⟩
  | true =>
   obtain ⟨hN,hN1,hN2⟩:=mF hd
   obtain ⟨hw1,hw2,hh1,hh2,_⟩:=bC hd
   have hWH:=eG hd
   clear hd hN
   have h0:¬t<0:=by omega
   have h1:t≥d.W * d.H:=by omega
   go_wp2_with fail
   go_ret
   exact ⟨aQ HR.out.symm,B1.out⟩
theorem wL (d:Dev) (t p:Int) (w:World) :
  Calls Tryz.prog 206 #[.agg #[.int .i64 d.W,.int .i64 d.H,.int .i64 d.T,.int .i64 d.R],.int .i64 t,.int .i64 p] w fun e w'=>e = .returned (.int .i64 (lL d t p))/\Below w.heap.size w w':=by
 have HO:Hid (lL d t p=if au d t=true/\0<=p/\p<iC (bA d t) then t * aX d+p else -1):=rfl
 have HB0:=Hd (aF (Below.refl w.heap.size w) (.cells #[.int .i64 d.W,.int .i64 d.H,.int .i64 d.T,.int .i64 d.R] 36))
 by_cases hp0:p<0
 ·have HR:Hid (lL d t p=-1):=by show _=_;rw [HO.out,if_neg];rintro ⟨_,h0,_⟩;omega
  have dp:decide (p<0)=true:=decide_eq_true hp0
  clear hp0
  go_enter Tryz.func206,Tryz.ntmps206
  go_wp2_with fail
  go_ret
  exact ⟨aQ HR.out.symm,HB0.out⟩
 ·have dp:decide (p<0)=false:=decide_eq_false hp0
  cases ht:au d t with
  | false =>
   have HR:Hid (lL d t p=-1):=by show _=_;rw [HO.out,if_neg];rintro ⟨h0,_⟩;rw [ht] at h0;cases h0
   have HTK:Hid (jd d t=-1):=by show _=_;unfold jd;rw [ht];rfl
   have dq:decide (p≥0)=true:=decide_eq_true (by omega)
   have dq':decide (0<=p)=true:=decide_eq_true (by omega)
   clear hp0 ht
   go_enter Tryz.func206,Tryz.ntmps206
   go_wp2_with fail
   refine (mH d t _).mono ?_
   rw [HTK.out]
   rintro _ w2 ⟨rfl,b2⟩
   have HB2:=Hd (aB HB0.out b2)
   clear b2
   go_wp2_with fail
   refine (mq (-1) _).mono ?_
   rw [show iC (-1)=0 from rfl]
   rintro _ w3 ⟨rfl,rfl⟩
   go_wp2_with fail
   go_ret
   exact ⟨aQ HR.out.symm,HB2.out⟩
  | true =>
   have HTK:Hid (jd d t=bA d t):=by show _=_;unfold jd;rw [if_pos ht]
   obtain ⟨hd,ht0,ht1⟩:=aW.1 ht
   have hWH:=eG hd
   have hT:=bC hd
   have hp:=dw hd
   have hop:=mD d t
   have HM:=Hd (iM ht0 (show t<=35 by omega) (show 0<=aX d by omega) hp.2)
   have HT:=Hd ht
   clear ht hd
   go_enter Tryz.func206,Tryz.ntmps206
   go_wp2_with fail
   refine (mH d t _).mono ?_
   rw [HTK.out]
   rintro _ w2 ⟨rfl,b2⟩
   have HB2:=Hd (aB HB0.out b2)
   have hs2:=b2.size
   simp only [World.size_alloc] at hs2
   obtain ⟨hcc,hff⟩:=bI b2
   clear b2
   generalize bA d t=K at *
   go_wp2_with fail
   refine (mq K _).mono ?_
   generalize iC K=Q at *
   rintro _ w3 ⟨rfl,rfl⟩
   by_cases hin:p<Q
   ·have hh:decide (p≥Q)=false:=by simp;omega
    have HR:Hid (lL d t p=t * aX d+p):=by show _=_;rw [HO.out,if_pos ⟨HT.out,by omega,hin⟩]
    go_wp2_with fail
    refine (dh d _ (by omega) (by omega)).mono ?_
    rintro _ w3 ⟨rfl,b3⟩
    have HB3:=Hd (aB HB2.out b3)
    have hM:=HM.out
    clear b3 hcc hff
    go_wp2_with fail
    go_ret
    exact ⟨aQ HR.out.symm,HB3.out⟩
   ·have hh:decide (p≥Q)=true:=by simp;omega
    have HR:Hid (lL d t p=-1):=by show _=_;rw [HO.out,if_neg];rintro ⟨_,_,h1⟩;exact hin h1
    go_wp2_with fail
    go_ret
    exact ⟨aQ HR.out.symm,HB2.out⟩
def pV (w:World) (b n:Nat) (l:List Int):Prop:=∃vs:Array Value,w.heap[b]?=some (.cells vs 4 (0,0))/\vs.size=n/\∀j,j<n→vs[j]?=some (.bool (decide ((j:Int)∈l)))
theorem pV.made (w:World) (n:Nat):pV (w.alloc (.cells (madeCells #[.bool false] n) 4)) w.heap.size n []:=by
 refine ⟨_,aK w _,size_madeCells _ _,fun j hj=>?_⟩
 rw [←Array.getElem?_toList,toList_madeCells_one,List.getElem?_replicate,if_pos hj]
 rfl
theorem pV.keep {w w':World} {b n:Nat} {l:List Int} (h:pV w b n l) (hk:w'.heap[b]?=w.heap[b]?):pV w' b n l:=by
 obtain ⟨vs,h1,h2⟩:=h
 exact ⟨vs,hk.trans h1,h2⟩
theorem pV.cell {w:World} {b n j:Nat} {l:List Int} (h:pV w b n l) (hj:j<n):w.cell? ⟨b,j,none⟩=some (.bool (decide ((j:Int)∈l)))/\w.frozen? ⟨b,j,none⟩=false:=by
 obtain ⟨vs,h1,_,h2⟩:=h
 exact ⟨aA h1 (h2 j hj),aj h1 j⟩
theorem pV.set {w:World} {b n k:Nat} {l:List Int} (h:pV w b n l) (hk:k<n):pV (w.setCell ⟨b,k,none⟩ (.bool true)) b n (l++[(k:Int)]):=by
 obtain ⟨vs,h1,h2,h3⟩:=h
 refine ⟨_,iP h1 k _,by simp [h2],fun j hj=>?_⟩
 rw [Array.getElem?_setIfInBounds]
 by_cases e:k=j
 ·subst e
  rw [if_pos rfl,if_pos (by omega)]
  simp
 ·rw [if_neg e,h3 j hj]
  have:(j:Int)≠(k:Int):=by omega
  simp [this]
abbrev ni (b n:Nat) (l:List Int):Pc := .own b fun w=>pV w b n l
theorem xm (w:World) (b k:Nat) (v:Value):w.grownBy (w.setCell ⟨b,k,none⟩ v) (some b) :=
 ⟨rfl,rfl,rfl,by simp [World.setCell],fun i _ hn=>Below.heap_setCell w ⟨b,k,none⟩ v i fun e=>hn (by rw [e])⟩
theorem aM.pushRowB {W w:World} {ps:List Pc} (h:aM W w ps) (n:Nat):aM W (w.alloc (.cells (madeCells #[.bool false] n) 4)) (ps++[ni w.heap.size n []]) :=
 h.push (aF (Below.refl _ _) _) (G:=[w.heap.size]) ⟨rfl,by simp,pV.made w n,fun _ _ e h=>h.keep e⟩ (by simp) (by simp)
theorem aM.truth {W w:World} {ps:List Pc} (S:aM W w ps) (i:Nat) {b n k:Nat} {l:List Int} (hi:ps[i]?=some (ni b n l)) (hk:k<n) :
  w.cell? ⟨b,k,none⟩=some (.bool (decide ((k:Int)∈l)))/\w.frozen? ⟨b,k,none⟩=false/\(W.heap.size<=b/\b<w.heap.size)/\aM W (w.setCell ⟨b,k,none⟩ (.bool true)) (ps.set i (ni b n (l++[(k:Int)]))):=by
 obtain ⟨h1,h2,h3⟩:=S.own i hi
 exact ⟨(h1.cell hk).1,(h1.cell hk).2,⟨h2,h3⟩,S.own_upd i hi (xm w b k _) (h1.set hk) (fun _ _ e h=>h.keep e)⟩
theorem xq:(Tryz.prog.info? 4).map (fun i=>(i.zero,i.size,i.bytes))=some (some (.bool false),1,1):=by kernel_rfl
theorem lD (n:Nat) (hn:n<=1048576) (w:World):(Instr.makeSlice 160 (.int .i64 (n:Int)) (.int .i64 (n:Int))).run Tryz.prog w = .ok (.slice (some ⟨w.heap.size,0,none⟩) n n) (w.alloc (.cells (madeCells #[.bool false] n) 4)):=by
 obtain ⟨i0,hi,hz0,hz1,hz2⟩:=info_parts xq
 have h:=dB (P:=Tryz.prog) 160 4 i0 _ Tryz.underlying160 hi hz0 .i64 .i64 n n (Nat.le_refl _) (by rw [hz2];omega) (by omega) w
 rw [hz1,Nat.mul_one] at h
 exact h
theorem lF (k:Int) (w:World) :
  Calls Tryz.prog 114 #[.int .i64 k] w fun e w'=>e = .returned (.int .i64 (fC k))/\w=w':=by
 by_cases h0:k=0
 ·subst h0
  go_enter Tryz.func114,Tryz.ntmps114
  go_wp2_with fail
  go_ret
  exact ⟨rfl,rfl⟩
 ·by_cases h1:k=1
  ·subst h1
   go_enter Tryz.func114,Tryz.ntmps114
   go_wp2_with fail
   go_ret
   exact ⟨rfl,rfl⟩
  ·by_cases h2:k=2
   ·subst h2
    go_enter Tryz.func114,Tryz.ntmps114
    go_wp2_with fail
    go_ret
    exact ⟨rfl,rfl⟩
   ·by_cases h3:k=3
    ·subst h3
     go_enter Tryz.func114,Tryz.ntmps114
     go_wp2_with fail
     go_ret
     exact ⟨rfl,rfl⟩
    ·have HB:Hid (fC k=-1):=by show _=_;unfold fC;rw [if_neg (by omega),if_neg h2,if_neg h3]
     have d0:(k==0)=false:=by simp [h0]
     have d1:(k==1)=false:=by simp [h1]
     have d2:(k==2)=false:=by simp [h2]
     have d3:(k==3)=false:=by simp [h3]
     clear h0 h1 h2 h3
     go_enter Tryz.func114,Tryz.ntmps114
     go_wp2_with fail
     go_ret
     exact ⟨aQ HB.out.symm,rfl⟩
theorem mV (bs:List Blk) (BA:Option Addr) (bn bc:Nat) (w:World) (hB:RdC w w.heap.size (bE bs) (.slice BA bn bc)) (hn:bn<=1048576) :
  Calls Tryz.prog 39 #[.slice BA bn bc] w fun e w'=>∃A c,e = .returned (.slice A bn c)/\Own w.heap.size w' A bn c (bs.map Blk.kind)/\Below w.heap.size w w':=by
 have hbl:=hB.blkN
 have HBL:=Hd hbl
 have HB:=Hd hB
 clear hB hbl
 go_enter Tryz.func39,Tryz.ntmps39
 go_wp2_with fail
 go_loopw [3,4] (fun v i wr=>∃(k:Nat) (A:Option Addr) (c:Nat),k<=bn/\i = .int .i64 (k:Int)/\v = .slice A k c/\aM w wr [.cel (aJ ((bs.take k).map Blk.kind)) (.slice A k c)]) (fun _ i _=>bn - (intOf i).toNat)
 case atStart=>exact ⟨0,_,_,by omega,rfl,rfl,(aM.refl w).pushNew 3 1⟩
 case round =>
  obtain ⟨k,A1,c1',hk,rfl,rfl,hs⟩:=hrel
  have HS:=Hd hs
  clear hs
  by_cases hlt:k<bn
  ·have hdk:decide ((k:Int)<(bn:Int))=true:=by simp;omega
   have hkl:k<bs.length:=by rw [HBL.out];exact hlt
   obtain ⟨bb,ob,EA,en,ec,rfl,hbb,c0,c1,c2,r2⟩:=HB.out.blk (k:=k) hkl
   have hBB:=HS.out.bel
   have lbb:=aL hBB hbb
   rw [←hBB.cell (p:=⟨bb,ob+k * 3,none⟩) hbb] at c0
   have HTK:=Hd (show (bs.take (k+1)).map Blk.kind=(bs.take k).map Blk.kind++[(bs[k]?.getD Blk.zero).kind] from by rw [kP hkl,List.map_append];rfl)
   clear hkl hBB r2 c1 c2
   generalize bs[k]?.getD Blk.zero=b at *
   obtain ⟨kd,it,es⟩:=b
   simp only at c0 HTK
   have i0:(0:Int)<=(k:Int):=by omega
   have i1:(k:Int)<(bn:Int):=by omega
   go_wp2_with (at_builtin;refine fB rfl _ _ rfl _ (HS.out.alloc _) 0 A1 k c1' ((bs.take k).map Blk.kind) kd _ (0,0) rfl rfl rfl (aK _ _) (by omega) ?_;intro g9 cap w9 S9 hz9;have HS9:=Hd S9;clear S9 hz9)
   go_roundw
   case rel=>exact ⟨k+1,_,_,by omega,by go_num,rfl,by rw [HTK.out];exact HS9.out⟩
   case measure=>simp [intOf];omega
  ·have hkn:k=bn:=by omega
   have hdk:decide ((k:Int)<(bn:Int))=false:=by simp;omega
   have HTK:Hid (bs.take k=bs):=by show _=_;rw [hkn];exact List.take_of_length_le (by rw [HBL.out];exact Nat.le_refl _)
   rw [HTK.out] at HS
   subst hkn
   go_wp2_with fail
   go_ret
   exact ⟨_,_,rfl,HS.out.owned 0 rfl,HS.out.bel⟩
theorem mW (d:Dev) (kinds place:List Int) (KA PA:Option Addr) (kn kc pn pc:Nat) (w:World) (hk:dA w KA kn kinds) (hp:dA w PA pn place) (_:pn<=pc) (_:pc<=1048576) :
  Calls Tryz.prog 38 #[.agg #[.int .i64 d.W,.int .i64 d.H,.int .i64 d.T,.int .i64 d.R],.slice KA kn kc,.slice PA pn pc] w fun e w'=>e = .returned (.bool (tb (di d kinds place)))/\Below w.heap.size w w':=by
 have HB0:=Hd (aF (Below.refl w.heap.size w) (.cells #[.int .i64 d.W,.int .i64 d.H,.int .i64 d.T,.int .i64 d.R] 36))
 have HXB:=Hd (aK w (.cells #[.int .i64 d.W,.int .i64 d.H,.int .i64 d.T,.int .i64 d.R] 36))
 have HK:=Hd hk
 have HP:=Hd hp
 clear hk hp
 cases hdv:dQ d with
 | false =>
  have HR:Hid (¬di d kinds place):=fun h=>by rw [h.dev] at hdv;cases hdv
  have HDO:=Hd hdv
  clear hdv
  go_enter Tryz.func38,Tryz.ntmps38
  go_upto_region 1 with fail
  generalize w.alloc (.cells #[.int .i64 d.W,.int .i64 d.H,.int .i64 d.T,.int .i64 d.R] 36)=W0 at *
  have hx:=HXB.out
  have x0:=aA (k:=0) hx rfl
  have x1:=aA (k:=1) hx rfl
  have x2:=aA (k:=2) hx rfl
  have x3:=aA (k:=3) hx rfl
  have lx:=aC hx
  clear hx
  go_wp2_with fail
  refine (gH d _).mono ?_
  rw [HDO.out]
  rintro _ w1 ⟨rfl,b1⟩
  have HB1:=Hd (aB HB0.out b1)
  have HX1:=Hd (aD b1 HXB.out)
  clear b1
  clear x0 x1 x2 x3 lx
  go_wp2_with fail
  go_ret
  exact ⟨aP HR.out,HB1.out⟩
 | true =>
  have HDO:=Hd hdv
  obtain ⟨hN,hN1,hN2⟩:=mF hdv
  have hdb:=bC hdv
  clear hdv
  by_cases h64:kn<=64
  ·have d64:decide ((64:Int)<(kn:Int))=false:=decide_eq_false (by omega)
   by_cases hpk:pn=kn
   ·subst hpk
    have dn:((pn:Int) != (pn:Int))=false:=by simp
    have hmk:=lD (nS d) (by omega)
    go_enter Tryz.func38,Tryz.ntmps38
    go_upto_region 1 with fail
    generalize w.alloc (.cells #[.int .i64 d.W,.int .i64 d.H,.int .i64 d.T,.int .i64 d.R] 36)=W0 at *
    have hx:=HXB.out
    have x0:=aA (k:=0) hx rfl
    have x1:=aA (k:=1) hx rfl
    have x2:=aA (k:=2) hx rfl
    have x3:=aA (k:=3) hx rfl
    have lx:=aC hx
    clear hx
    go_wp2_with fail
    refine (gH d _).mono ?_
    rw [HDO.out]
    rintro _ w1 ⟨rfl,b1⟩
    have HB1:=Hd (aB HB0.out b1)
    have HX1:=Hd (aD b1 HXB.out)
    clear b1
    clear x0 x1 x2 x3 lx
    have HS0:=Hd ((aM.refl w1).pushRowB (nS d))
    have hx:=HX1.out
    have x0:=aA (k:=0) hx rfl
    have x1:=aA (k:=1) hx rfl
    have x2:=aA (k:=2) hx rfl
    have x3:=aA (k:=3) hx rfl
    have lx:=aC hx
    clear hx
    go_wp2_with fail
    clear x0 x1 x2 x3 lx hmk hN
    go_loopw [8] (fun i wr=>∃k:Nat,k<=pn/\i = .int .i64 (k:Int)/\aM w1 wr [ni w1.heap.size (nS d) (place.take k)]/\(∀j,j<k→au d (place[j]?.getD 0)=true/\bA d (place[j]?.getD 0)=fC (kinds[j]?.getD 0))/\(place.take k).Nodup) (fun i _=>pn - (intOf i).toNat)
    case atStart=>exact ⟨0,by omega,rfl,HS0.out,fun j hj=>by omega,by simp⟩
    case round =>
     obtain ⟨k,hk,rfl,hs,hall,hnd⟩:=hrel
     have HS:=Hd hs
     have HALL:=Hd hall
     have HNDP:=Hd hnd
     have HBW:=Hd (aB HB1.out hs.bel)
     clear hs hall hnd
     by_cases hlt:k<pn
     ·have hdk:decide ((k:Int)<(pn:Int))=true:=by simp;omega
      obtain ⟨bp,op,hPA,hbp,hcp⟩:=HP.out.2 (by omega)
      obtain ⟨bk,ok,hKA,hbk,hck⟩:=HK.out.2 (by omega)
      have HPA:=Hd hPA
      have HKA:=Hd hKA
      have hkp:k<place.length:=by rw [HP.out.1];exact hlt
      have HSN:=Hd (bJ (z:=0) hkp)
      have HNO:Hid (¬(au d (place[k]?.getD 0)=true/\bA d (place[k]?.getD 0)=fC (kinds[k]?.getD 0))→¬di d kinds place):=fun h h'=>h (h'.tile k (by rw [HK.out.1];exact hlt))
      have HND:Hid (place[k]?.getD 0∈place.take k→¬di d kinds place):=fun h h'=>by
       have h1:=h'.once
       rw [←List.take_append_drop (k+1) place,HSN.out] at h1
       exact (dG.1 (List.nodup_append.1 h1).1).2 h
      have HG:Hid (au d (place[k]?.getD 0)=true/\bA d (place[k]?.getD 0)=fC (kinds[k]?.getD 0)→∀j,j<k+1→au d (place[j]?.getD 0)=true/\bA d (place[j]?.getD 0)=fC (kinds[j]?.getD 0)):=fun h=>bS HALL.out h
      have HCP:Hid (∀v,Below w.heap.size w v→v.cell? ⟨bp,op+k,none⟩=some (.int .i64 (place[k]?.getD 0))):=fun v hv=>(hv.cell (p:=⟨bp,op+k,none⟩) hbp).trans (hcp k hlt)
      have HCK:Hid (∀v,Below w.heap.size w v→v.cell? ⟨bk,ok+k,none⟩=some (.int .i64 (kinds[k]?.getD 0))):=fun v hv=>(hv.cell (p:=⟨bk,ok+k,none⟩) hbk).trans (hck k hlt)
      clear hcp hck hkp hPA hKA
      obtain rfl:=HPA.out
      obtain rfl:=HKA.out
      generalize place[k]?.getD 0=t at *
      generalize kinds[k]?.getD 0=kd at *
      have hbt:=pu kd
      obtain ⟨bt,hbtE⟩:∃b,fC kd=b:=⟨_,rfl⟩
      rw [hbtE] at hbt HNO HG
      have HBE:=Hd hbtE
      clear hbtE
      have i0:(0:Int)<=(k:Int):=by omega
      have i1:(k:Int)<(pn:Int):=by omega
      have cp:=HCP.out _ HBW.out
      have lbp:=aL HBW.out hbp
      have hx:=aD HS.out.bel HX1.out
      have x0:=aA (k:=0) hx rfl
      have x1:=aA (k:=1) hx rfl
      have x2:=aA (k:=2) hx rfl
      have x3:=aA (k:=3) hx rfl
      have lx:=aC hx
      clear hx
      have HTKC:=Hd (fun (x:Sub wr)=>mH d t x.v)
      obtain ⟨K,hKE⟩:∃K,jd d t=K:=⟨_,rfl⟩
      have HKE:=Hd hKE
      rw [hKE] at HTKC
      clear hKE
      go_upto_region 7 with fail
      have hsub:=aZ wr
      have hsc:=aR wr
      refine aI wr (by kernel_rfl) (by kernel_rfl) (Below.refl _ _) ?_
      repeat (go_big_quiet_step ((first
       | (go_at_call 113;with_reducible exact aO (HTKC.out _)))))
      refine wpQuiet_nil ?_
      rintro wq ⟨⟨w5,hD⟩,hw⟩
      replace hw:wq=w5:=hw
      subst hw
      clear hsub hsc
      have HS5:=Hd (HS.out.below hD)
      have HB5:=Hd (aB HBW.out hD)
      clear hD x0 x1 x2 x3 lx cp lbp
      have cp:=HCP.out _ HB5.out
      have ck:=HCK.out _ HB5.out
      have lbp:=aL HB5.out hbp
      have lbk:=aL HB5.out hbk
      cases ht:au d t with
      | false =>
       have hK:K=-1:=by rw [←HKE.out];unfold jd;rw [ht];rfl
       have HR:=Hd (HNO.out (fun h=>by rw [h.1] at ht;cases ht))
       subst hK
       clear ht HG HNO HND
       go_wp2_with fail
       go_ret
       exact ⟨aP HR.out,HB5.out⟩
      | true =>
       have hK:K=bA d t:=by rw [←HKE.out];unfold jd;rw [if_pos ht]
       have hk2:=rA d t
       obtain ⟨hd,h0,h1⟩:=aW.1 ht
       obtain ⟨hN,hN1,hN2⟩:=mF hd
       rw [hN] at h1
       have HT:=Hd ht
       have HKK:=Hd hK
       rw [←hK] at hk2 HNO HG
       clear ht hd hN hK
       obtain ⟨T,rfl⟩:∃T:Nat,t=(T:Int):=⟨t.toNat,by omega⟩
       have hT:T<nS d:=by omega
       have k0:decide (K<0)=false:=decide_eq_false (by omega)
       by_cases hKB:K=bt
       ·have dK:(K != bt)=false:=by simp [hKB]
        obtain ⟨q1,q2,q3,q4⟩:=HS5.out.truth 0 (k:=T) rfl hT
        have HS6:=Hd q4
        have hne:bp≠w1.heap.size:=by have:=aL HB1.out hbp;omega
        have iT:(T:Int)<(nS d:Int):=by omega
        have iT0:(0:Int)<=(T:Int):=by omega
        have HG2:=Hd (HG.out ⟨HT.out,hKB⟩)
        clear q4 HG HNO hKB
        by_cases hm:(T:Int)∈place.take k
        ·have HR:=Hd (HND.out hm)
         rw [decide_eq_true hm] at q1
         clear HND hm
         go_wp2_with fail
         refine (lF kd _).mono ?_
         rw [HBE.out]
         rintro _ w7 ⟨rfl,rfl⟩
         go_wp2_with fail
         go_ret
         exact ⟨aP HR.out,HB5.out⟩
        ·have HM:=Hd hm
         rw [decide_eq_false hm] at q1
         clear HND hm
         go_wp2_with fail
         refine (lF kd _).mono ?_
         rw [HBE.out]
         rintro _ w7 ⟨rfl,rfl⟩
         go_wp2_with fail
         go_roundw
         case rel=>exact ⟨k+1,by omega,by go_num,by rw [HSN.out];exact HS6.out,HG2.out,by rw [HSN.out,dG];exact ⟨HNDP.out,HM.out⟩⟩
         case measure=>simp [intOf];omega
       ·have dK:(K != bt)=true:=by simp [hKB]
        have HR:=Hd (HNO.out (fun h=>hKB h.2))
        clear HG HNO HND hKB
        go_wp2_with fail
        refine (lF kd _).mono ?_
        rw [HBE.out]
        rintro _ w7 ⟨rfl,rfl⟩
        go_wp2_with fail
        go_ret
        exact ⟨aP HR.out,HB5.out⟩
     ·have hkn:k=pn:=by omega
      have hdk:decide ((k:Int)<(pn:Int))=false:=by simp;omega
      have HR:Hid (di d kinds place):=⟨HDO.out,by rw [HK.out.1];exact h64,by rw [HP.out.1,HK.out.1],fun j hj=>HALL.out j (by rw [hkn,←HK.out.1];exact hj),by
       have h:=HNDP.out
       rwa [hkn,List.take_of_length_le (by rw [HP.out.1];exact Nat.le_refl _)] at h⟩
      clear HALL HNDP hkn
      go_wp2_with fail
      go_ret
      exact ⟨cO HR.out,HBW.out⟩
   ·have dn:((pn:Int) != (kn:Int))=true:=by simp;omega
    have HR:Hid (¬di d kinds place):=fun h=>hpk (by rw [←HP.out.1,←HK.out.1];exact h.same)
    clear hpk hN
    go_enter Tryz.func38,Tryz.ntmps38
    go_upto_region 1 with fail
    generalize w.alloc (.cells #[.int .i64 d.W,.int .i64 d.H,.int .i64 d.T,.int .i64 d.R] 36)=W0 at *
    have hx:=HXB.out
    have x0:=aA (k:=0) hx rfl
    have x1:=aA (k:=1) hx rfl
    have x2:=aA (k:=2) hx rfl
    have x3:=aA (k:=3) hx rfl
    have lx:=aC hx
    clear hx
    go_wp2_with fail
    refine (gH d _).mono ?_
    rw [HDO.out]
    rintro _ w1 ⟨rfl,b1⟩
    have HB1:=Hd (aB HB0.out b1)
    have HX1:=Hd (aD b1 HXB.out)
    clear b1
    clear x0 x1 x2 x3 lx
    go_wp2_with fail
    go_ret
    exact ⟨aP HR.out,HB1.out⟩
  ·have d64:decide ((64:Int)<(kn:Int))=true:=decide_eq_true (by omega)
   have HR:Hid (¬di d kinds place):=fun h=>h64 (by rw [←HK.out.1];exact h.len)
   clear h64 hN
   go_enter Tryz.func38,Tryz.ntmps38
   go_upto_region 1 with fail
   generalize w.alloc (.cells #[.int .i64 d.W,.int .i64 d.H,.int .i64 d.T,.int .i64 d.R] 36)=W0 at *
   have hx:=HXB.out
   have x0:=aA (k:=0) hx rfl
   have x1:=aA (k:=1) hx rfl
   have x2:=aA (k:=2) hx rfl
   have x3:=aA (k:=3) hx rfl
   have lx:=aC hx
   clear hx
   go_wp2_with fail
   refine (gH d _).mono ?_
   rw [HDO.out]
   rintro _ w1 ⟨rfl,b1⟩
   have HB1:=Hd (aB HB0.out b1)
   have HX1:=Hd (aD b1 HXB.out)
   clear b1
   clear x0 x1 x2 x3 lx
   go_wp2_with fail
   go_ret
   exact ⟨aP HR.out,HB1.out⟩
end Go.Proofs.YtofihjoanjkdmaaGreat
