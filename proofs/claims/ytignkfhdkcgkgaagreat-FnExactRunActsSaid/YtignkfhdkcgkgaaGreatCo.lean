/- Whether the frames of tiles are clean; worlds behind one store (printed by mkop.py). -/
import Derived.Deep.CutBlock
import Derived.Deep.CutRange
import Derived.Deep.DeepCutAuto
import Derived.Test.YtignkfhdkcgkgaaGreatAb
namespace Go.Proofs.YtignkfhdkcgkgaaGreat
set_option maxHeartbeats 4000000
set_option maxRecDepth 100000
open Go.RowKit
structure gX (w:World) (g k:Nat) (v:Value) (w':World):Prop where
 os:w'.os=w.os
 tape:w'.tape=w.tape
 output:w'.output=w.output
 heap:w'.heap=(w.setCell ⟨g,k,none⟩ v).heap
theorem gX.size {w w':World} {g k:Nat} {v:Value} (h:gX w g k v w'):w'.heap.size=w.heap.size:=by rw [h.heap];simp
theorem gX.far {w w':World} {g k i:Nat} {v:Value} (h:gX w g k v w') (hi:i≠g):w'.heap[i]?=w.heap[i]?:=by rw [h.heap];exact Below.heap_setCell w ⟨g,k,none⟩ v i hi
theorem gX.below {w w':World} {g k lo:Nat} {v:Value} (h:gX w g k v w') {a:World} (hb:Below lo a w) (hg:lo<=g):Below lo a w' :=
 ⟨h.os.trans hb.os,h.tape.trans hb.tape,h.output.trans hb.output,by rw [h.size];exact hb.size,fun i hi=>(h.far (by omega)).trans (hb.block i hi)⟩
theorem gX.bk {w w':World} {g k g':Nat} {v:Value} {b:Bd} {s:Sl3} (h:gX w g k v w') (hx:bC w g' b s) (hn:g'≠g):bC w' g' b s:=(h.far hn).trans hx
theorem gX.ints {w w':World} {g k:Nat} {v:Value} {A:Option Addr} {n:Nat} {xs:List Int} (h:gX w g k v w') (hx:bH w A n xs) (hn:∀a,A=some a→a.block≠g):bH w' A n xs:=by
 refine ⟨hx.1,fun h0=>?_⟩
 obtain ⟨b,o,rfl,hb,hc⟩:=hx.2 h0
 exact ⟨b,o,rfl,by rw [h.size];exact hb,fun j hj=>(World.cell?_of_block (a:=⟨b,o+j,none⟩) (h.far (hn ⟨b,o,none⟩ rfl))).trans (hc j hj)⟩
theorem gX.other {w w':World} {g k j:Nat} {v:Value} (h:gX w g k v w') (hj:k≠j):w'.cell? ⟨g,j,none⟩=w.cell? ⟨g,j,none⟩:=by
 have e:w'.cell? ⟨g,j,none⟩=(w.setCell ⟨g,k,none⟩ v).cell? ⟨g,j,none⟩:=by unfold World.cell?;rw [h.heap]
 rw [e,World.cell?_setCell_other _ ⟨g,k,none⟩ ⟨g,j,none⟩ _ (by intro h;injection h with _ h;exact hj h)]
theorem gX.fpFar {w w':World} {g k lo hi:Nat} {v:Value} {b:Bd} {s:Sl3} (hp:gX w g k v w') (h:aG lo hi w b s) (hn:g<lo∨hi<=g):aG lo hi w' b s:=h.keep fun i _ h1 h2=>hp.far (by omega)
theorem gX.ownFar {w w':World} {g k base:Nat} {v:Value} {A:Option Addr} {n c:Nat} {xs:List Int} (hp:gX w g k v w') (h:Own base w A n c xs) (hn:∀a,A=some a→a.block≠g):Own base w' A n c xs:=aa h fun a ha=>hp.far (hn a ha)
theorem gX.own {w w':World} {g k base n c:Nat} {x:Int} {xs:List Int} (hp:gX w g k (.int .i64 x) w') (h:Own base w (some ⟨g,0,none⟩) n c xs) (hk:k<n):Own base w' (some ⟨g,0,none⟩) n c (xs.set k x):=aa (h.stored hk x) fun _ _=>by rw [hp.heap]
theorem gX.frozen {w w':World} {g k:Nat} {v:Value} (h:gX w g k v w') {a:Addr}:w'.frozen? a=w.frozen? a:=by
 have e:w'.frozen? a=(w.setCell ⟨g,k,none⟩ v).frozen? a:=by unfold World.frozen?;rw [h.heap]
 rw [e,World.frozen?_setCell]
theorem gX.num {lo hi:Nat} {w w':World} {b b':Bd} {s:Sl3} {g k:Nat} {x:Int} (hp:gX w g k (.int .i64 x) w') (h:aG lo hi w b s) (hk:k<s.n2) (hA:s.A2=some ⟨g,0,none⟩)
  (e1:b'.frames=b.frames) (e2:b'.state=b.state.set k x) (e3:b'.saved=b.saved):aG lo hi w' b' s :=
 (h.setNum hk hA e1 e2 e3).keep fun i _ _ _=>by rw [hp.heap]
theorem Am {p:Nat→Bool} {n:Nat} (h:∀j,j<n→p j=true):(List.range n).all p=true:=by
 rw [List.all_eq_true]
 intro j hj
 exact h j (List.mem_range.1 hj)
theorem D9 {p:Nat→Bool} {n k:Nat} (hk:k<n) (h:p k=false):(List.range n).all p=false:=by
 rw [List.all_eq_false]
 exact ⟨k,List.mem_range.2 hk,by rw [h];simp⟩
theorem yw (A:Option Addr) (n c:Nat) (fs:List (List Int)) (T:Option Addr) (m tc:Nat) (ts:List Int) (w:World) (hA:dZ w A n fs) (hT:bH w T m ts) (hin:∀j,j<m→0<=ts[j]?.getD 0/\ts[j]?.getD 0<(n:Int)) (hn:n<=1099511627776) (hrow:∀j:Nat,(fs[j]?.getD []).length<=1099511627776) (hm:m<=1099511627776) :
  Calls Tryz.prog 170 #[.slice A n c,.slice T m tc] w fun e w'=>e = .returned (.bool (FZ fs ts))/\w=w':=by
 obtain ⟨hx,hA⟩:=hA
 obtain ⟨hy,hT⟩:=hT
 have HX:=Hd hx
 have HY:=Hd hy
 have HIN:=Hd hin
 have HROW:=Hd hrow
 clear hx hy hin hrow
 go_enter Tryz.func170,Tryz.ntmps170
 go_wp2_with fail
 go_loop [13] (fun i=>∃k:Nat,k<=m/\i = .int .i64 k/\∀j,j<k→yZ (fs[(ts[j]?.getD 0).toNat]?.getD [])=true) (fun i=>m - (intOf i).toNat)
 case atStart=>exact ⟨0,Nat.zero_le _,rfl,by intro j hj;omega⟩
 case round =>
  obtain ⟨k,hk,rfl,hall⟩:=hrel
  have HALL:=Hd hall
  clear hall
  by_cases hlt:k<m
  ·obtain ⟨bt,ot,rfl,hbt,hct⟩:=hT (by omega)
   have hck:=hct k hlt
   obtain ⟨t0,t1⟩:=HIN.out k hlt
   have HB:Hid (yZ (fs[(ts[k]?.getD 0).toNat]?.getD [])=false→FZ fs ts=false):=fun h=>D9 (by rw [HY.out];exact hlt) h
   have HG:Hid (yZ (fs[(ts[k]?.getD 0).toNat]?.getD [])=true→∀j,j<k+1→yZ (fs[(ts[j]?.getD 0).toNat]?.getD [])=true):=fun h=>gF HALL.out h
   clear hct
   generalize ts[k]?.getD 0=t at *
   obtain ⟨tn,rfl⟩:=Int.eq_ofNat_of_zero_le t0
   simp only [Int.toNat_natCast] at HB HG
   obtain ⟨b,o,rfl,hb,hc⟩:=hA (by omega)
   obtain ⟨A1,m1,c1,hcr,hI1⟩:=hc tn (by omega)
   have hm1:m1<=1099511627776:=by have h1:=HROW.out tn;have h2:=hI1.1;omega
   obtain ⟨hz,hI⟩:=hI1
   have HZ:=Hd hz
   have k0:(0:Int)<=(k:Int):=by omega
   have k1:(k:Int)<(m:Int):=by omega
   clear hc hz
   generalize fs[tn]?.getD []=f at *
   go_wp2_with fail
   go_loop [22] (fun i=>∃j:Nat,j<=m1/\i = .int .i64 j/\∀q,q<j→((iq (f[q]?.getD 0)).2==0)=true) (fun i=>m1 - (intOf i).toNat)
   case atStart=>exact ⟨0,Nat.zero_le _,rfl,by intro j hj;omega⟩
   case round =>
    obtain ⟨j,hj,rfl,hal2⟩:=hrel
    have HAL2:=Hd hal2
    clear hal2
    by_cases hjl:j<m1
    ·obtain ⟨b1,o1,rfl,hb1,hc1⟩:=hI (by omega)
     have hcj:=hc1 j hjl
     have HB2:Hid (((iq (f[j]?.getD 0)).2==0)=false→yZ f=false):=fun h=>D9 (by rw [HZ.out];exact hjl) h
     have HG2:Hid (((iq (f[j]?.getD 0)).2==0)=true→∀q,q<j+1→((iq (f[q]?.getD 0)).2==0)=true):=fun h=>gF HAL2.out h
     clear hc1
     generalize f[j]?.getD 0=x at *
     have j0:(0:Int)<=(j:Int):=by omega
     have j1:(j:Int)<(m1:Int):=by omega
     have HDW:=Hd (lU x)
     generalize iq x=dx at *
     by_cases hd:dx.2=0
     ·have hdd:(dx.2 != 0)=false:=by simp [hd]
      have HG3:=Hd (HG2.out (by simp [hd]))
      clear HG2 HB2 hd
      go_wp2_with (go_at_call 215;refine (HDW.out _).mono ?_;rintro e w' ⟨rfl,rfl⟩)
      go_round
      case rel=>exact ⟨j+1,by omega,by go_num,HG3.out⟩
      case measure=>simp [intOf];omega
     ·have hdd:(dx.2 != 0)=true:=by simp [hd]
      have HB3:=Hd (HB.out (HB2.out (by simp [hd])))
      clear HG2 HB2 hd
      go_wp2_with (go_at_call 215;refine (HDW.out _).mono ?_;rintro e w' ⟨rfl,rfl⟩)
      go_ret
      exact ⟨aH HB3.out.symm,rfl⟩
    ·have hjn:j=m1:=by omega
     subst hjn
     have hdj:decide ((j:Int)<(j:Int))=false:=by simp
     have HG4:=Hd (HG.out (Am (by rw [HZ.out];exact HAL2.out)))
     clear HG HB
     go_wp2_with fail
     go_round
     case rel=>exact ⟨k+1,by omega,by go_num,HG4.out⟩
     case measure=>simp [intOf];omega
  ·have hkn:k=m:=by omega
   subst hkn
   have hdk:decide ((k:Int)<(k:Int))=false:=by simp
   go_wp2_with fail
   go_ret
   exact ⟨aH (Eq.symm (Am (by rw [HY.out];exact HALL.out))),rfl⟩
theorem Eg {d:Dev} {fs:List (List Int)} (h:az d fs=true):(dA d fs).length=2 * tiles d:=by rw [pg h,jf,(aj h).2.1]
theorem yx (b:Bd) (st ts:List Int) (h:ts=aQ b.dev b.reg) (m:Nat) (hm:ts.length=m) (hs:st=dA b.dev b.frames):ovS st (ts.take m) b.state=(cmB b).state:=by
 subst hs h
 rw [List.take_of_length_le (by omega)]
 rfl
theorem Ao {b:Bd} (h:abO b=true):b.state.length=2 * tiles b.dev/\(dA b.dev b.frames).length=2 * tiles b.dev/\b.frames.length=tiles b.dev/\∀j:Nat,(b.frames[j]?.getD []).length<=1099511627776:=by
 obtain ⟨hb,hp⟩:=lL h
 obtain ⟨hf,hs,-,hr,-⟩:=dV hb
 exact ⟨sK hs,Eg hf,(dW hf).1,fun j=>by have:=ib hf j;omega⟩
theorem uE (b:Bd) (s:Sl3) (x:Int) (w:World) (hA:bV w b s) (hz1:af b.frames<=1099511627776) (h2:s.n2<=16777216) (h3:af b.saved<=1099511627776) :
  Calls Tryz.prog 110 #[.agg (aD b s),.int .i64 x] w fun e w'=>∃R,e = .returned (.tuple #[.agg (aD (coB b x) R),.bool (coO b x)])/\aG w.heap.size w'.heap.size w' (coB b x) R/\Below w.heap.size w w':=by
 have hz:kF b:=⟨hz1,by have:=hA.state.1;omega,h3⟩
 have HI:=Hd hA
 have HB:=Hd (aB (aB (Below.refl w.heap.size w) (.cells (aD b s) 31)) (.cells z12 31))
 have HX:Hid (bC ((w.alloc (.cells (aD b s) 31)).alloc (.cells z12 31)) w.heap.size b s):=aR _ (aL _ _)
 have HZ:Hid (bC ((w.alloc (.cells (aD b s) 31)).alloc (.cells z12 31)) (w.heap.size+1) zBd zSl):=ae (by simp)
 have hsz:w.heap.size+2<=((w.alloc (.cells (aD b s) 31)).alloc (.cells z12 31)).heap.size:=by simp
 clear hA
 go_enter Tryz.func110,Tryz.ntmps110
 go_wp2_with fail
 generalize hW:((w.alloc (.cells (aD b s) 31)).alloc (.cells z12 31))=W at *
 clear hW
 refine (fq b s _ (HI.out.below HB.out) hz1 h2 h3).mono ?_
 rintro e w3 ⟨rfl,b3⟩
 have hs0:=b3.size
 replace HB:=Hd (aA HB.out b3)
 replace HX:=Hd (HX.out.tr b3)
 replace HZ:=Hd (HZ.out.tr b3)
 clear b3
 cases hb:bkF b with
 | false =>
  have hO:abO b=false:=by unfold abO;rw [hb];rfl
  clear hb
  have HU:Hid (coB b x=b):=by show _=_;unfold coB;rw [hO];rfl
  have HV:Hid (coO b x=false):=by show _=_;unfold coO;rw [hO];rfl
  clear hO
  obtain ⟨x0,x1,x2,x3,x4,x5,x6,x7,x8,x9,x10,x11⟩:=HX.out.cells
  go_wp2_with fail
  clear x0 x1 x2 x3 x4 x5 x6 x7 x8 x9 x10 x11
  refine (cB b s _ (HI.out.below HB.out) hz).mono ?_
  rintro e w5 ⟨R,rfl,a5,b5⟩
  have HF:=Hd a5.fp
  have hs1:=b5.size
  replace HB:=Hd (aA HB.out b5)
  replace HX:=Hd (HX.out.tr b5)
  replace HZ:=Hd (HZ.out.tr b5)
  clear a5 b5
  obtain ⟨z0,z1,z2,z3,z4,z5,z6,z7,z8,z9,z10,z11⟩:=HZ.out.cells
  have yz:=HZ.out.soft
  go_wp2_with fail
  clear z0 z1 z2 z3 z4 z5 z6 z7 z8 z9 z10 z11 yz
  generalize hWF:World.setCell _ _ _=WF
  obtain ⟨hbk,hszF,hBF,hCF⟩:=bK (W:=w5) (b':=b) (s':=R) hWF (HZ.out) (HB.out) (by omega)
  have hR:aG w.heap.size WF.heap.size WF b R:=((HF.out).chg hCF (.inr (by omega))).widen (by omega) (by omega)
  clear hWF
  refine bodyPost_ret (v := .tuple #[.agg (aD b R),.bool false]) (aI Tryz.results110 rfl hbk Tryz.underlying31 (by kernel_rfl)) rfl ⟨R,by rw [HU.out,HV.out],by rw [HU.out];exact hR,hBF⟩
 | true =>
  by_cases hp:b.phase=1
  ·have HP:=Hd hp
   have hp0:(b.phase != 1)=false:=by rw [hp];rfl
   clear hp
   have hO:abO b=true:=by unfold abO;rw [hb,HP.out];rfl
   have HAB:=Hd hO
   have HAP:=Hd (Ao hO)
   clear hO hb
   obtain ⟨x0,x1,x2,x3,x4,x5,x6,x7,x8,x9,x10,x11⟩:=HX.out.cells
   go_wp2_with fail
   clear x0 x1 x2 x3 x4 x5 x6 x7 x8 x9 x10 x11
   refine (kV b.dev b.reg _).mono ?_
   rintro e w4 ⟨TA,m,tc,rfl,o4,b4⟩
   have hTL:=o4.len
   have hmb:m<=36:=by have h1:=kM b.dev b.reg;omega
   have HT:=Hd o4.ints
   have HTA:=Hd o4.lies
   have hs1:=b4.size
   replace HB:=Hd (aA HB.out b4)
   replace HX:=Hd (HX.out.tr b4)
   replace HZ:=Hd (HZ.out.tr b4)
   clear b4 o4
   have hRT:∀j,j<(aQ b.dev b.reg).length→0<=(aQ b.dev b.reg)[j]?.getD 0/\(aQ b.dev b.reg)[j]?.getD 0<(tiles b.dev:Int):=fun j hj=>kP hj
   have HRT:=Hd hRT
   have HTL:=Hd hTL
   have HTE:Hid (aQ b.dev b.reg=aQ b.dev b.reg):=rfl
   clear hRT hTL
   generalize hts:aQ b.dev b.reg=ts at HT HRT HTL HTE
   have HTS:=Hd hts
   clear hts HTE
   have hn1:s.n1=tiles b.dev:=by have h:=HI.out.frames.1;have h2:=HAP.out.2.2.1;omega
   have hn1b:s.n1<=1099511627776:=(dz HI.out.frames.1 hz1).1
   have HN1:=Hd hn1
   clear hn1
   have HAC:Hid (∀w',dZ w' s.A1 s.n1 b.frames→bH w' TA m ts→Calls Tryz.prog 170 #[.slice s.A1 s.n1 s.c1,.slice TA m tc] w' fun e w''=>e = .returned (.bool (FZ b.frames ts))/\w'=w''):=fun w' h1 h2=>yw s.A1 s.n1 s.c1 b.frames TA m tc ts w' h1 h2 (fun j hj=>by have h:=HRT.out j (by rw [HTL.out];exact hj);rw [HN1.out];exact h) hn1b HAP.out.2.2.2 (by omega)
   cases hcl:FZ b.frames ts with
   | false =>
    rw [hcl] at HAC
    have HCL:=Hd hcl
    clear hcl
    obtain ⟨x0,x1,x2,x3,x4,x5,x6,x7,x8,x9,x10,x11⟩:=HX.out.cells
    go_wp2_with fail
    clear x0 x1 x2 x3 x4 x5 x6 x7 x8 x9 x10 x11
    refine (HAC.out _ (HI.out.frames.below HB.out) HT.out).mono ?_
    rintro e w' ⟨rfl,rfl⟩
    have hC:coC b x=false:=by unfold coC;rw [HTS.out,HCL.out];rfl
    have HU:Hid (coB b x=rbB b):=by show _=_;unfold coB;rw [HAB.out,hC];rfl
    have HV:Hid (coO b x=false):=by show _=_;unfold coO;rw [hC];simp
    clear hC
    obtain ⟨x0,x1,x2,x3,x4,x5,x6,x7,x8,x9,x10,x11⟩:=HX.out.cells
    go_wp2_with fail
    clear x0 x1 x2 x3 x4 x5 x6 x7 x8 x9 x10 x11
    refine (qA b s _ (HI.out.below HB.out) HAB.out hz1 h2 h3).mono ?_
    rintro e w5 ⟨R,rfl,f5,b5⟩
    have HF:=Hd f5
    have hs2:=b5.size
    replace HB:=Hd (aA HB.out b5)
    replace HX:=Hd (HX.out.tr b5)
    replace HZ:=Hd (HZ.out.tr b5)
    clear f5 b5
    obtain ⟨z0,z1,z2,z3,z4,z5,z6,z7,z8,z9,z10,z11⟩:=HZ.out.cells
    have yz:=HZ.out.soft
    go_wp2_with fail
    clear z0 z1 z2 z3 z4 z5 z6 z7 z8 z9 z10 z11 yz
    generalize hWF:World.setCell _ _ _=WF
    obtain ⟨hbk,hszF,hBF,hCF⟩:=bK (W:=w5) (b':=(rbB b)) (s':=R) hWF (HZ.out) (HB.out) (by omega)
    have hR:aG w.heap.size WF.heap.size WF (rbB b) R:=((HF.out).chg hCF (.inr (by omega))).widen (by omega) (by omega)
    clear hWF
    refine bodyPost_ret (v := .tuple #[.agg (aD (rbB b) R),.bool false]) (aI Tryz.results110 rfl hbk Tryz.underlying31 (by kernel_rfl)) rfl ⟨R,by rw [HU.out,HV.out],by rw [HU.out];exact hR,hBF⟩
   | true =>
    rw [hcl] at HAC
    have HCL:=Hd hcl
    clear hcl
    obtain ⟨x0,x1,x2,x3,x4,x5,x6,x7,x8,x9,x10,x11⟩:=HX.out.cells
    go_wp2_with fail
    clear x0 x1 x2 x3 x4 x5 x6 x7 x8 x9 x10 x11
    refine (HAC.out _ (HI.out.frames.below HB.out) HT.out).mono ?_
    rintro e w' ⟨rfl,rfl⟩
    obtain ⟨x0,x1,x2,x3,x4,x5,x6,x7,x8,x9,x10,x11⟩:=HX.out.cells
    go_wp2_with fail
    clear x0 x1 x2 x3 x4 x5 x6 x7 x8 x9 x10 x11
    refine (sD b.dev s.A1 s.n1 s.c1 b.frames TA m tc ts _ (HI.out.frames.below HB.out) HT.out hz1 (by omega)).mono ?_
    rintro e w7 ⟨rfl,b7⟩
    have hs2:=b7.size
    replace HB:=Hd (aA HB.out b7)
    replace HX:=Hd (HX.out.tr b7)
    replace HZ:=Hd (HZ.out.tr b7)
    replace HT:=Hd (HT.out.below b7)
    clear b7
    have HFC:Hid (jy b.dev b.frames ts=jy b.dev b.frames ts):=rfl
    generalize hfc:jy b.dev b.frames ts=y at *
    replace HFC:=Hd hfc
    clear hfc
    by_cases hyx:y=x
    ·have hyb:(y != x)=false:=by simp [hyx]
     have hC:coC b x=true:=by unfold coC;rw [HTS.out,HCL.out,HFC.out,decide_eq_true hyx];rfl
     clear hyx
     have HU:Hid (coB b x=cmB b):=by show _=_;unfold coB;rw [HAB.out,hC];rfl
     have HV:Hid (coO b x=true):=by show _=_;unfold coO;rw [HAB.out,hC];rfl
     clear hC
     obtain ⟨x0,x1,x2,x3,x4,x5,x6,x7,x8,x9,x10,x11⟩:=HX.out.cells
     go_wp2_with fail
     clear x0 x1 x2 x3 x4 x5 x6 x7 x8 x9 x10 x11
     refine (cB b s _ (HI.out.below HB.out) hz).mono ?_
     rintro e w1 ⟨R,rfl,a1,b1⟩
     have HF:=Hd a1.fp
     have hs3:=b1.size
     replace HB:=Hd (aA HB.out b1)
     replace HX:=Hd (HX.out.tr b1)
     replace HZ:=Hd (HZ.out.tr b1)
     replace HT:=Hd (HT.out.below b1)
     clear a1 b1
     go_wp2_with fail
     refine (p9 b R 0 _).mono ?_
     rintro e w6 ⟨rfl,b6⟩
     have hs4:=b6.size
     replace HB:=Hd (aA HB.out b6)
     replace HX:=Hd (HX.out.tr b6)
     replace HZ:=Hd (HZ.out.tr b6)
     replace HT:=Hd (HT.out.below b6)
     replace HF:=Hd (HF.out.below b6)
     clear b6
     have b2:Below w6.heap.size w6 (w6.alloc (.cells #[.int .i64 b.dev.W,.int .i64 b.dev.H,.int .i64 b.dev.T,.int .i64 b.dev.R,.slice R.A1 R.n1 R.c1,.slice R.A2 R.n2 R.c2,.int .i64 0,.int .i64 rZ.X0,.int .i64 rZ.Y0,.int .i64 rZ.X1,.int .i64 rZ.Y1,.slice none 0 0] 31)):=aB (Below.refl _ _) _
     have HO:Hid (bC (w6.alloc (.cells #[.int .i64 b.dev.W,.int .i64 b.dev.H,.int .i64 b.dev.T,.int .i64 b.dev.R,.slice R.A1 R.n1 R.c1,.slice R.A2 R.n2 R.c2,.int .i64 0,.int .i64 rZ.X0,.int .i64 rZ.Y0,.int .i64 rZ.X1,.int .i64 rZ.Y1,.slice none 0 0] 31)) w6.heap.size ⟨b.dev,b.frames,b.state,0,rZ,[]⟩ ⟨R.A1,R.n1,R.c1,R.A2,R.n2,R.c2,none,0,0⟩):=aL _ _
     have hsO:w6.heap.size<(w6.alloc (.cells #[.int .i64 b.dev.W,.int .i64 b.dev.H,.int .i64 b.dev.T,.int .i64 b.dev.R,.slice R.A1 R.n1 R.c1,.slice R.A2 R.n2 R.c2,.int .i64 0,.int .i64 rZ.X0,.int .i64 rZ.Y0,.int .i64 rZ.X1,.int .i64 rZ.Y1,.slice none 0 0] 31)).heap.size:=by simp
     replace HB:=Hd (aA HB.out b2)
     replace HX:=Hd (HX.out.tr b2)
     replace HZ:=Hd (HZ.out.tr b2)
     replace HT:=Hd (HT.out.below b2)
     replace HF:=Hd (HF.out.below b2)
     obtain ⟨x0,x1,x2,x3,x4,x5,x6,x7,x8,x9,x10,x11⟩:=HX.out.cells
     go_wp2_with fail
     generalize hW2:(w6.alloc (.cells #[.int .i64 b.dev.W,.int .i64 b.dev.H,.int .i64 b.dev.T,.int .i64 b.dev.R,.slice R.A1 R.n1 R.c1,.slice R.A2 R.n2 R.c2,.int .i64 0,.int .i64 rZ.X0,.int .i64 rZ.Y0,.int .i64 rZ.X1,.int .i64 rZ.Y1,.slice none 0 0] 31))=W2 at *
     clear x0 x1 x2 x3 x4 x5 x6 x7 x8 x9 x10 x11
     clear hW2 b2
     refine (wz b.dev s.A1 s.n1 s.c1 b.frames _ (HI.out.frames.below HB.out) hz1).mono ?_
     rintro e w8 ⟨SA,sn,sc,rfl,o8,b8⟩
     have HSI:=Hd o8.ints
     have HSL:=Hd o8.lies
     have HSN:=Hd o8.len
     have hs6:=b8.size
     replace HB:=Hd (aA HB.out b8)
     replace HX:=Hd (HX.out.tr b8)
     replace HZ:=Hd (HZ.out.tr b8)
     replace HT:=Hd (HT.out.below b8)
     replace HF:=Hd (HF.out.below b8)
     replace HO:=Hd (HO.out.tr b8)
     clear b8 o8
     have HSE:Hid (dA b.dev b.frames=dA b.dev b.frames):=rfl
     generalize hse:dA b.dev b.frames=st at HSI HSN HSE HAP
     replace HSE:=Hd hse
     clear hse
     go_wp2_with fail
     go_loopw [53] (fun i wr=>∃k:Nat,k<=m/\i = .int .i64 k/\Below w.heap.size w wr/\bC wr (w.heap.size+1) zBd zSl/\bC wr w6.heap.size ⟨b.dev,b.frames,b.state,0,rZ,[]⟩ ⟨R.A1,R.n1,R.c1,R.A2,R.n2,R.c2,none,0,0⟩/\bH wr TA m ts/\bH wr SA sn st/\aG w7.heap.size w1.heap.size wr ⟨b.dev,b.frames,ovS st (ts.take k) b.state,0,rZ,[]⟩ ⟨R.A1,R.n1,R.c1,R.A2,R.n2,R.c2,none,0,0⟩/\w8.heap.size<=wr.heap.size) (fun i _=>m - (intOf i).toNat)
     case atStart=>exact ⟨0,Nat.zero_le _,rfl,HB.out,HZ.out,HO.out,HT.out,HSI.out,HF.out.clear (b':=⟨b.dev,b.frames,ovS st (ts.take 0) b.state,0,rZ,[]⟩) rfl rfl rfl rfl rfl,Nat.le_refl _⟩
     case round =>
      obtain ⟨k,hk,rfl,hb1,hz1r,ho1,ht1,hs1,hf1,hsr⟩:=hrel
      have HBr:=Hd hb1
      have HZr:=Hd hz1r
      have HOr:=Hd ho1
      have HTr:=Hd ht1
      have HSr:=Hd hs1
      have HFr:=Hd hf1
      clear hb1 hz1r ho1 ht1 hs1 hf1
      by_cases hlt:k<m
      ·have hdk:decide ((k:Int)<(m:Int))=true:=by simp;omega
       obtain ⟨t0,t1⟩:=HRT.out k (by rw [HTL.out];exact hlt)
       have HST:=Hd (sO (old:=st) (new:=b.state) (ts:=ts) (k:=k) (by rw [HTL.out];exact hlt))
       obtain ⟨bt,ot,hTA,hbt,hct⟩:=HTr.out.2 (by omega)
       have hck:=hct k hlt
       have hbt0:=(HTA.out ⟨bt,ot,none⟩ hTA)
       simp only at hbt0
       subst hTA
       clear hct
       generalize ts[k]?.getD 0=t at *
       obtain ⟨tn,rfl⟩:=Int.eq_ofNat_of_zero_le t0
       rw [Int.toNat_natCast] at HST
       obtain ⟨p1,p2,p3,p4⟩:=HAP.out
       have htn:tn<36:=by have h1:=HTL.out;have h2:=(bT (dV (lL HAB.out).1 |>.1 |> aj |>.1)).2.2;omega
       have q1:R.n2=2 * tiles b.dev:=by have h:=HFr.out.rd.state.1;have h2:=lY st (ts.take k) b.state;simp only at h;omega
       have q2:sn=2 * tiles b.dev:=by have h:=HSN.out;omega
       obtain ⟨g,hA2,hgc,hgf,hg1,hg2,hg3⟩:=HFr.out.stateAt (k:=2 * tn) (by simp only;omega)
       have hgf2:wr.frozen? ⟨g,2 * tn+1,none⟩=false:=by obtain ⟨g',h1,-,h2,-⟩:=HFr.out.stateAt (k:=2 * tn+1) (by simp only;omega);rw [hA2] at h1;injection h1 with h1;injection h1 with h1;subst h1;exact h2
       obtain ⟨bs,os,hSA,hbs,hcs⟩:=HSr.out.2 (by omega)
       have hs0:=hcs (2 * tn) (by omega)
       have hs1:=hcs (2 * tn+1) (by omega)
       have hbs0:=(HSL.out ⟨bs,os,none⟩ hSA)
       simp only at hbs0
       subst hSA
       simp only at hA2
       have e1:IntKind.i64.wrap (2 * (tn:Int))=2 * (tn:Int):=IntWalk.i64_in _ (by omega)
       have e2:IntKind.i64.wrap (2 * (tn:Int)+1)=2 * (tn:Int)+1:=IntWalk.i64_in _ (by omega)
       have f1:(2 * (tn:Int)).toNat=2 * tn:=by omega
       have f2:(2 * (tn:Int)+1).toNat=2 * tn+1:=by omega
       have k0:(0:Int)<=(k:Int):=by omega
       have k1:(k:Int)<(m:Int):=by omega
       have i0:(0:Int)<=2 * (tn:Int):=by omega
       have i1:2 * (tn:Int)<(R.n2:Int):=by omega
       have i2:2 * (tn:Int)<(sn:Int):=by omega
       have j0:(0:Int)<=2 * (tn:Int)+1:=by omega
       have j1:2 * (tn:Int)+1<(R.n2:Int):=by omega
       have j2:2 * (tn:Int)+1<(sn:Int):=by omega
       have HA2:=Hd hA2
       have n1:w6.heap.size≠g:=by omega
       have n2:bs≠g:=by omega
       have HQ2:Hid (2 * tn<R.n2/\2 * tn+1<R.n2):=⟨by omega,by omega⟩
       clear p1 p2 p3 p4 q1 q2 hcs
       generalize (ovS st (ts.take k) b.state)[2 * tn]?.getD 0=og at hgc
       generalize hy0:st[2 * tn]?.getD 0=y0 at *
       generalize hy1:st[2 * tn+1]?.getD 0=y1 at *
       obtain ⟨o0,o1,o2,o3,o4,o5,o6,o7,o8,o9,o10,o11⟩:=HOr.out.cells
       simp only at o5
       rw [hA2] at o5
       clear hy0 hy1 hA2 o0 o1 o2 o3 o4 o6 o7 o8 o9 o10 o11
       go_wp2_with fail
       go_cut [] (fun w'=>∃wx,gX wr g (2 * tn) (.int .i64 y0) wx/\wx=w')
       case first =>
        go_region_with (fail)
        all_goals
         go_wp2_with fail
         go_meet
         refine ⟨_,?_,rfl⟩
         exact ⟨rfl,rfl,rfl,rfl⟩
       obtain ⟨wx,hP,rfl⟩:=hcut
       have hBx:=hP.below HBr.out (lo:=w.heap.size) (by omega)
       have HBx:=Hd hBx
       have HZx:=Hd (hP.bk HZr.out (by omega))
       have HOx:=Hd (hP.bk HOr.out n1)
       have HTx:=Hd (hP.ints HTr.out (by rintro a ⟨⟩;simp only;omega))
       have HSx:=Hd (hP.ints HSr.out (by rintro a ⟨⟩;exact n2))
       have HFx:=Hd (hP.num (b':=⟨b.dev,b.frames,(ovS st (ts.take k) b.state).set (2 * tn) y0,0,rZ,[]⟩) HFr.out HQ2.out.1 HA2.out rfl rfl rfl)
       have hsx:wr.heap.size<=wx.heap.size:=by rw [hP.size];exact Nat.le_refl _
       have HPx:=Hd hP
       obtain ⟨o0,o1,o2,o3,o4,o5,o6,o7,o8,o9,o10,o11⟩:=HOx.out.cells
       have hA2:=HA2.out
       simp only at o5
       rw [hA2] at o5
       clear hP hBx hA2 o0 o1 o2 o3 o4 o6 o7 o8 o9 o10 o11 hs0 hgf hgc
       rw [←World.cell?_of_block (a:=⟨bs,os+(2 * tn+1),none⟩) (HPx.out.far n2)] at hs1
       obtain ⟨g',h1,hgc,hgf,-⟩:=HFx.out.stateAt (k:=2 * tn+1) HQ2.out.2
       replace h1:R.A2=some ⟨g',0,none⟩:=h1
       rw [HA2.out] at h1
       injection h1 with h1
       injection h1 with h1
       subst h1
       clear hgf2
       simp only at hgc
       generalize ((ovS st (ts.take k) b.state).set (2 * tn) y0)[2 * tn+1]?.getD 0=og2 at hgc
       have hbs2:bs<wx.heap.size:=by omega
       have hbt2:g<wx.heap.size:=by omega
       go_wp2_with fail
       have HN:Hid (∀wy,gX wx g (2 * tn+1) (.int .i64 y1) wy→Below w.heap.size w wy/\bC wy (w.heap.size+1) zBd zSl/\bC wy w6.heap.size ⟨b.dev,b.frames,b.state,0,rZ,[]⟩ ⟨R.A1,R.n1,R.c1,R.A2,R.n2,R.c2,none,0,0⟩/\bH wy (some ⟨bt,ot,none⟩) m ts/\bH wy (some ⟨bs,os,none⟩) sn st/\aG w7.heap.size w1.heap.size wy ⟨b.dev,b.frames,ovS st (ts.take (k+1)) b.state,0,rZ,[]⟩ ⟨R.A1,R.n1,R.c1,R.A2,R.n2,R.c2,none,0,0⟩/\w8.heap.size<=wy.heap.size):=fun wy hP =>
        ⟨hP.below HBx.out (lo:=w.heap.size) (by omega),hP.bk HZx.out (by omega),hP.bk HOx.out n1,hP.ints HTx.out (by rintro a ⟨⟩;simp only;omega),hP.ints HSx.out (by rintro a ⟨⟩;exact n2),hP.num HFx.out HQ2.out.2 HA2.out rfl HST.out rfl,by rw [hP.size];omega⟩
       go_region_with (fail)
       all_goals
        clear o5 hs1 hgf hgc e1 e2 f1 f2 hck
        go_wp2_with fail
        go_roundw
        case rel=>exact ⟨k+1,by omega,by go_num,HN.out _ ⟨rfl,rfl,rfl,rfl⟩⟩
        case measure=>simp [intOf];omega
      ·have hkm:k=m:=by omega
       subst hkm
       have hdk:decide ((k:Int)<(k:Int))=false:=by simp
       have HEQ:=Hd (yx b st ts HTS.out.symm k HTL.out HSE.out.symm)
       obtain ⟨o0,o1,o2,o3,o4,o5,o6,o7,o8,o9,o10,o11⟩:=HOr.out.cells
       obtain ⟨z0,z1,z2,z3,z4,z5,z6,z7,z8,z9,z10,z11⟩:=HZr.out.cells
       have yz:=HZr.out.soft
       go_wp2_with fail
       clear o0 o1 o2 o3 o4 o5 o6 o7 o8 o9 o10 o11 z0 z1 z2 z3 z4 z5 z6 z7 z8 z9 z10 z11 yz
       have HU2:Hid (coB b x=⟨b.dev,b.frames,ovS (dA b.dev b.frames) (aQ b.dev b.reg) b.state,0,rZ,[]⟩):=HU.out
       generalize hWF:World.setCell _ _ _=WF
       obtain ⟨hbk,hszF,hBF,hCF⟩:=bK (W:=wr) (b':=⟨b.dev,b.frames,ovS (dA b.dev b.frames) (aQ b.dev b.reg) b.state,0,rZ,[]⟩) (s':=⟨R.A1,R.n1,R.c1,R.A2,R.n2,R.c2,none,0,0⟩) hWF (HZr.out) (HBr.out) (by omega)
       have hR:aG w.heap.size WF.heap.size WF ⟨b.dev,b.frames,ovS (dA b.dev b.frames) (aQ b.dev b.reg) b.state,0,rZ,[]⟩ ⟨R.A1,R.n1,R.c1,R.A2,R.n2,R.c2,none,0,0⟩:=((HFr.out.dev (b':=⟨b.dev,b.frames,ovS (dA b.dev b.frames) (aQ b.dev b.reg) b.state,0,rZ,[]⟩) rfl HEQ.out.symm rfl).chg hCF (.inr (by omega))).widen (by omega) (by omega)
       clear hWF
       refine bodyPost_ret (v := .tuple #[.agg (aD ⟨b.dev,b.frames,ovS (dA b.dev b.frames) (aQ b.dev b.reg) b.state,0,rZ,[]⟩ ⟨R.A1,R.n1,R.c1,R.A2,R.n2,R.c2,none,0,0⟩),.bool true]) (aI Tryz.results110 rfl hbk Tryz.underlying31 (by kernel_rfl)) rfl ⟨⟨R.A1,R.n1,R.c1,R.A2,R.n2,R.c2,none,0,0⟩,by rw [HU2.out,HV.out],by rw [HU2.out];exact hR,hBF⟩
    ·have hyb:(y != x)=true:=by simp [hyx]
     have HYX:=Hd hyx
     clear hyx
     have hC:coC b x=false:=by unfold coC;rw [HTS.out,HCL.out,HFC.out,decide_eq_false HYX.out];rfl
     have HU:Hid (coB b x=rbB b):=by show _=_;unfold coB;rw [HAB.out,hC];rfl
     have HV:Hid (coO b x=false):=by show _=_;unfold coO;rw [hC];simp
     clear hC
     obtain ⟨x0,x1,x2,x3,x4,x5,x6,x7,x8,x9,x10,x11⟩:=HX.out.cells
     go_wp2_with fail
     clear x0 x1 x2 x3 x4 x5 x6 x7 x8 x9 x10 x11
     refine (qA b s _ (HI.out.below HB.out) HAB.out hz1 h2 h3).mono ?_
     rintro e w5 ⟨R,rfl,f5,b5⟩
     have HF:=Hd f5
     have hs3:=b5.size
     replace HB:=Hd (aA HB.out b5)
     replace HX:=Hd (HX.out.tr b5)
     replace HZ:=Hd (HZ.out.tr b5)
     clear f5 b5
     obtain ⟨z0,z1,z2,z3,z4,z5,z6,z7,z8,z9,z10,z11⟩:=HZ.out.cells
     have yz:=HZ.out.soft
     go_wp2_with fail
     clear z0 z1 z2 z3 z4 z5 z6 z7 z8 z9 z10 z11 yz
     generalize hWF:World.setCell _ _ _=WF
     obtain ⟨hbk,hszF,hBF,hCF⟩:=bK (W:=w5) (b':=(rbB b)) (s':=R) hWF (HZ.out) (HB.out) (by omega)
     have hR:aG w.heap.size WF.heap.size WF (rbB b) R:=((HF.out).chg hCF (.inr (by omega))).widen (by omega) (by omega)
     clear hWF
     refine bodyPost_ret (v := .tuple #[.agg (aD (rbB b) R),.bool false]) (aI Tryz.results110 rfl hbk Tryz.underlying31 (by kernel_rfl)) rfl ⟨R,by rw [HU.out,HV.out],by rw [HU.out];exact hR,hBF⟩
  ·have hp0:(b.phase != 1)=true:=by simp [hp]
   have hO:abO b=false:=by unfold abO;rw [hb,decide_eq_false hp];rfl
   clear hb hp
   have HU:Hid (coB b x=b):=by show _=_;unfold coB;rw [hO];rfl
   have HV:Hid (coO b x=false):=by show _=_;unfold coO;rw [hO];rfl
   clear hO
   obtain ⟨x0,x1,x2,x3,x4,x5,x6,x7,x8,x9,x10,x11⟩:=HX.out.cells
   go_wp2_with fail
   clear x0 x1 x2 x3 x4 x5 x6 x7 x8 x9 x10 x11
   refine (cB b s _ (HI.out.below HB.out) hz).mono ?_
   rintro e w5 ⟨R,rfl,a5,b5⟩
   have HF:=Hd a5.fp
   have hs4:=b5.size
   replace HB:=Hd (aA HB.out b5)
   replace HX:=Hd (HX.out.tr b5)
   replace HZ:=Hd (HZ.out.tr b5)
   clear a5 b5
   obtain ⟨z0,z1,z2,z3,z4,z5,z6,z7,z8,z9,z10,z11⟩:=HZ.out.cells
   have yz:=HZ.out.soft
   go_wp2_with fail
   clear z0 z1 z2 z3 z4 z5 z6 z7 z8 z9 z10 z11 yz
   generalize hWF:World.setCell _ _ _=WF
   obtain ⟨hbk,hszF,hBF,hCF⟩:=bK (W:=w5) (b':=b) (s':=R) hWF (HZ.out) (HB.out) (by omega)
   have hR:aG w.heap.size WF.heap.size WF b R:=((HF.out).chg hCF (.inr (by omega))).widen (by omega) (by omega)
   clear hWF
   refine bodyPost_ret (v := .tuple #[.agg (aD b R),.bool false]) (aI Tryz.results110 rfl hbk Tryz.underlying31 (by kernel_rfl)) rfl ⟨R,by rw [HU.out,HV.out],by rw [HU.out];exact hR,hBF⟩
end Go.Proofs.YtignkfhdkcgkgaaGreat
