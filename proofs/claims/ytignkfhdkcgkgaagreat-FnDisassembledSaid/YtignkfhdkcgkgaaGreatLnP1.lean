/- Reading networks of look-up tables. Plain lemmas. The program's test whether a network of look-up tables is valid: of networks that are. -/
import Derived.Test.YtignkfhdkcgkgaaGreatOrdP
import Derived.Test.YtignkfhdkcgkgaaGreatRt3
import Derived.Test.YtignkfhdkcgkgaaGreatVal
namespace Go.Proofs.YtignkfhdkcgkgaaGreat
set_option maxRecDepth 100000
open Go.RowKit

theorem RdC.lut' {w:World} {B n c k:Nat} {A:Option Addr} {xs:List Lt} (h:RdC w B (celLt xs) (.slice A n c)) (hk:k<xs.length) :
  ∃b o S m p,A=some ⟨b,o,none⟩∧b<B∧w.cell? ⟨b,o+k * 2,none⟩=some (.slice S m p)∧w.cell? ⟨b,o+k * 2+1,none⟩=some (.int .i64 (xs[k]?.getD Lt.zero).mask)∧RdC w B (celI (xs[k]?.getD Lt.zero).ins) (.slice S m p):=by
 have hl:=flatS_length Lt.cells_length xs
 obtain ⟨b,o,rfl,hb,hc⟩:=h.cell (by rw [hl];omega)
 have hx:=getD_some Lt.zero hk
 generalize xs[k]?.getD Lt.zero=t at *
 have g:=fun (j:Nat) (hj:j<2)=>hc (k * 2+j) (by rw [hl];omega)
 obtain ⟨c0,v0,e0,m0,r0⟩:=g 0 (by omega)
 obtain ⟨c1,v1,e1,m1,r1⟩:=g 1 (by omega)
 rw [flatS_at Lt.cells_length hx (by omega)] at e0 e1
 simp only [Lt.cells,List.getElem?_cons_zero,List.getElem?_cons_succ,Option.some.injEq] at e0 e1
 subst e0 e1
 rw [rdC_int] at r1
 subst r1
 obtain ⟨S,m,p,rfl⟩:=rdC_slice (e:=3) (s:=1) r0
 exact ⟨b,o,S,m,p,rfl,hb,m0,m1,r0⟩
theorem RdC.lutN' {w:World} {B n c:Nat} {A:Option Addr} {xs:List Lt} (h:RdC w B (celLt xs) (.slice A n c)):xs.length=n:=by
 have:=RdC.len h
 rw [flatS_length Lt.cells_length] at this
 omega
theorem RdC.sq' {w:World} {B n c k:Nat} {A:Option Addr} {xs:List Sq} (h:RdC w B (celSq xs) (.slice A n c)) (hk:k<xs.length) :
  ∃b o S m p,A=some ⟨b,o,none⟩∧b<B∧w.cell? ⟨b,o+k * 3,none⟩=some (.int .i64 (xs[k]?.getD Sq.zero).kind)∧w.cell? ⟨b,o+k * 3+1,none⟩=some (.int .i64 (xs[k]?.getD Sq.zero).init)∧w.cell? ⟨b,o+k * 3+2,none⟩=some (.slice S m p)∧RdC w B (celI (xs[k]?.getD Sq.zero).ins) (.slice S m p):=by
 have hl:=flatS_length Sq.cells_length xs
 obtain ⟨b,o,rfl,hb,hc⟩:=h.cell (by rw [hl];omega)
 have hx:=getD_some Sq.zero hk
 generalize xs[k]?.getD Sq.zero=t at *
 have g:=fun (j:Nat) (hj:j<3)=>hc (k * 3+j) (by rw [hl];omega)
 obtain ⟨c0,v0,e0,m0,r0⟩:=g 0 (by omega)
 obtain ⟨c1,v1,e1,m1,r1⟩:=g 1 (by omega)
 obtain ⟨c2,v2,e2,m2,r2⟩:=g 2 (by omega)
 rw [flatS_at Sq.cells_length hx (by omega)] at e0 e1 e2
 simp only [Sq.cells,List.getElem?_cons_zero,List.getElem?_cons_succ,Option.some.injEq] at e0 e1 e2
 subst e0 e1 e2
 rw [rdC_int] at r0 r1
 subst r0 r1
 obtain ⟨S,m,p,rfl⟩:=rdC_slice (e:=3) (s:=1) r2
 exact ⟨b,o,S,m,p,rfl,hb,m0,m1,m2,r2⟩
theorem RdC.sqN' {w:World} {B n c:Nat} {A:Option Addr} {xs:List Sq} (h:RdC w B (celSq xs) (.slice A n c)):xs.length=n:=by
 have:=RdC.len h
 rw [flatS_length Sq.cells_length] at this
 omega
abbrev netV (l:LNet) (SA LA OA:Option Addr) (sn sc ln lc on oc:Nat):Value := .agg #[.int .i64 l.inputs,.slice SA sn sc,.slice LA ln lc,.slice OA on oc]
abbrev netC (l:LNet) (SA LA OA:Option Addr) (sn sc ln lc on oc:Nat):Array Value:=#[.int .i64 l.inputs,.slice SA sn sc,.slice LA ln lc,.slice OA on oc]
/-- A network can be read. -/
structure NetRd (w:World) (l:LNet) (SA LA OA:Option Addr) (sn sc ln lc on oc:Nat):Prop where
 sq:RdC w w.heap.size (celSq l.seqs) (.slice SA sn sc)
 lt:RdC w w.heap.size (celLt l.luts) (.slice LA ln lc)
 ou:RdC w w.heap.size (celI l.outs) (.slice OA on oc)
theorem NetRd.below {w w':World} {l:LNet} {SA LA OA:Option Addr} {sn sc ln lc on oc:Nat} (h:NetRd w l SA LA OA sn sc ln lc on oc) (hb:Below w.heap.size w w'):NetRd w' l SA LA OA sn sc ln lc on oc:=⟨h.sq.below hb,h.lt.below hb,h.ou.below hb⟩
theorem NetRd.lens {w:World} {l:LNet} {SA LA OA:Option Addr} {sn sc ln lc on oc:Nat} (h:NetRd w l SA LA OA sn sc ln lc on oc):l.seqs.length=sn∧l.luts.length=ln∧l.outs.length=on:=⟨h.sq.sqN',h.lt.lutN',h.ou.ints.1⟩
end Go.Proofs.YtignkfhdkcgkgaaGreat

namespace Go.Proofs.YtignkfhdkcgkgaaGreat
set_option maxRecDepth 100000
open Go.RowKit

set_option maxHeartbeats 1000000 in
theorem nodesBelow_yes (A:Option Addr) (n c:Nat) (xs:List Int) (m:Int) (w:World) (h:Ints w A n xs) (hn:n≤1048576) (hm:0≤m∧m≤1048576) (hx:∀x∈xs,0≤x∧x<m) :
  Calls Tryz.prog 78 #[.slice A n c,.int .i64 m] w fun e w'=>e = .returned (.bool true)∧w=w':=by
 have HX:Hid (∀(x:Int),x∈xs→inR x 0 (m - 1)=true):=fun x hq=>inR_iff.2 ⟨(hx x hq).1,by have:=(hx x hq).2;omega⟩
 have HI:=Lib.hid h
 clear h hx
 go_enter Tryz.func78,Tryz.ntmps78
 go_wp2_with fail
 go_loopw [9] (fun i wr=>∃k:Nat,k≤n∧i = .int .i64 (k:Int)∧w=wr) (fun i _=>n - (intOf i).toNat)
 case atStart=>exact ⟨0,by omega,rfl,rfl⟩
 case round =>
  obtain ⟨k,hk,rfl,rfl⟩:=hrel
  by_cases hlt:k<n
  ·have hdk:decide ((k:Int)<(n:Int))=true:=by simp;omega
   obtain ⟨b,o,rfl,hb,hc⟩:=HI.out.2 (by omega)
   have hck:=hc k hlt
   have hkl:k<xs.length:=by rw [HI.out.1];exact hlt
   have HM:=Lib.hid (HX.out _ (List.getElem_mem hkl))
   rw [List.getElem?_eq_getElem hkl,Option.getD_some] at hck
   generalize xs[k]=x at *
   have i0:(0:Int)≤(k:Int):=by omega
   have i1:(k:Int)<(n:Int):=by omega
   clear hc
   go_wp2_with fail
   refine (inRange_any x 0 (m - 1) _).mono ?_
   rw [HM.out]
   rintro _ w' ⟨rfl,rfl⟩
   go_wp2_with fail
   go_roundw
   case rel=>exact ⟨k+1,by omega,by go_num,by first|rfl|trivial⟩
   case measure=>simp [intOf];omega
  ·have hkn:k=n:=by omega
   subst hkn
   have hdk:decide ((k:Int)<(k:Int))=false:=by simp
   go_wp2_with fail
   go_ret
   exact ⟨rfl,rfl⟩
set_option maxHeartbeats 1000000 in
theorem lutNodes2_yes (l:LNet) (SA LA OA:Option Addr) (sn sc ln lc on oc:Nat) (w:World) (hi:0≤l.inputs∧l.inputs≤20) (h1:sn≤12) (h2:ln≤400) (h3:on≤16) :
  Calls Tryz.prog 77 #[netV l SA LA OA sn sc ln lc on oc] w fun e w'=>e = .returned (.int .i64 (1+l.inputs+(sn:Int)+(ln:Int)))∧Below w.heap.size w w':=by
 have HB0:=Lib.hid (below_new (Below.refl w.heap.size w) (.cells (netC l SA LA OA sn sc ln lc on oc) 61))
 have HR:Hid (inR l.inputs 0 20=true):=inR_iff.2 hi
 have d1:decide ((12:Int)<(sn:Int))=false:=decide_eq_false (by omega)
 have d2:decide ((400:Int)<(ln:Int))=false:=decide_eq_false (by omega)
 have d3:decide ((16:Int)<(on:Int))=false:=decide_eq_false (by omega)
 go_enter Tryz.func77,Tryz.ntmps77
 go_wp2_with fail
 refine (inRange_any l.inputs 0 20 _).mono ?_
 rw [HR.out]
 rintro _ w1 ⟨rfl,rfl⟩
 go_wp2_with fail
 refine (lutNodes_any l.inputs SA LA OA sn sc ln lc on oc _ hi.1 (by omega) (by omega) (by omega)).mono ?_
 rintro _ w2 ⟨rfl,b2⟩
 have HB2:=Lib.hid (below_tr HB0.out b2)
 clear b2
 go_wp2_with fail
 go_ret
 exact ⟨rfl,HB2.out⟩
set_option maxHeartbeats 1000000 in
theorem seqOk_yes (k y:Int) (A:Option Addr) (n c:Nat) (w:World) (h:k=0∧(0≤y∧y≤1)∧n=1∨k=1∧(0≤y∧y≤31)∧n=4) :
  Calls Tryz.prog 79 #[.agg #[.int .i64 k,.int .i64 y,.slice A n c]] w fun e w'=>e = .returned (.bool true)∧Below w.heap.size w w':=by
 have HB0:=Lib.hid (below_new (Below.refl w.heap.size w) (.cells #[.int .i64 k,.int .i64 y,.slice A n c] 105))
 rcases h with ⟨rfl,hy,rfl⟩|⟨rfl,hy,rfl⟩
 ·have HR:Hid (inR y 0 1=true):=inR_iff.2 hy
  go_enter Tryz.func79,Tryz.ntmps79
  go_wp2_with fail
  refine (inRange_any y 0 1 _).mono ?_
  rw [HR.out]
  rintro _ w1 ⟨rfl,rfl⟩
  go_wp2_with fail
  go_ret
  exact ⟨rfl,HB0.out⟩
 ·have HR:Hid (inR y 0 31=true):=inR_iff.2 hy
  go_enter Tryz.func79,Tryz.ntmps79
  go_wp2_with fail
  refine (inRange_any y 0 31 _).mono ?_
  rw [HR.out]
  rintro _ w1 ⟨rfl,rfl⟩
  go_wp2_with fail
  go_ret
  exact ⟨rfl,HB0.out⟩
set_option maxHeartbeats 1000000 in
theorem tableOk_0 (m:Int) (w:World) (hm:0≤m∧m≤1) :
  Calls Tryz.prog 81 #[.agg #[.int .i64 0,.int .i64 m]] w fun e w'=>e = .returned (.bool true)∧Below w.heap.size w w':=by
 have HB0:=Lib.hid (below_new (Below.refl w.heap.size w) (.cells #[.int .i64 0,.int .i64 m] 130))
 have HR:Hid (inR 0 0 4=true):=by show _=_;decide
 have HR2:Hid (inR m 0 1=true):=inR_iff.2 hm
 clear hm
 go_enter Tryz.func81,Tryz.ntmps81
 go_wp2_with fail
 refine (inRange_any _ 0 4 _).mono ?_
 rw [HR.out]
 rintro _ w1 ⟨rfl,rfl⟩
 go_wp2_with fail
 refine (inRange_any m 0 1 _).mono ?_
 rw [HR2.out]
 rintro _ w1 ⟨rfl,rfl⟩
 go_wp2_with fail
 go_ret
 exact ⟨rfl,HB0.out⟩
set_option maxHeartbeats 1000000 in
theorem tableOk_1 (m:Int) (w:World) (hm:0≤m∧m≤3) :
  Calls Tryz.prog 81 #[.agg #[.int .i64 1,.int .i64 m]] w fun e w'=>e = .returned (.bool true)∧Below w.heap.size w w':=by
 have HB0:=Lib.hid (below_new (Below.refl w.heap.size w) (.cells #[.int .i64 1,.int .i64 m] 130))
 have HR:Hid (inR 1 0 4=true):=by show _=_;decide
 have HR2:Hid (inR m 0 3=true):=inR_iff.2 hm
 clear hm
 go_enter Tryz.func81,Tryz.ntmps81
 go_wp2_with fail
 refine (inRange_any _ 0 4 _).mono ?_
 rw [HR.out]
 rintro _ w1 ⟨rfl,rfl⟩
 go_wp2_with fail
 refine (inRange_any m 0 3 _).mono ?_
 rw [HR2.out]
 rintro _ w1 ⟨rfl,rfl⟩
 go_wp2_with fail
 go_ret
 exact ⟨rfl,HB0.out⟩
set_option maxHeartbeats 1000000 in
theorem tableOk_2 (m:Int) (w:World) (hm:0≤m∧m≤15) :
  Calls Tryz.prog 81 #[.agg #[.int .i64 2,.int .i64 m]] w fun e w'=>e = .returned (.bool true)∧Below w.heap.size w w':=by
 have HB0:=Lib.hid (below_new (Below.refl w.heap.size w) (.cells #[.int .i64 2,.int .i64 m] 130))
 have HR:Hid (inR 2 0 4=true):=by show _=_;decide
 have HR2:Hid (inR m 0 15=true):=inR_iff.2 hm
 clear hm
 go_enter Tryz.func81,Tryz.ntmps81
 go_wp2_with fail
 refine (inRange_any _ 0 4 _).mono ?_
 rw [HR.out]
 rintro _ w1 ⟨rfl,rfl⟩
 go_wp2_with fail
 refine (inRange_any m 0 15 _).mono ?_
 rw [HR2.out]
 rintro _ w1 ⟨rfl,rfl⟩
 go_wp2_with fail
 go_ret
 exact ⟨rfl,HB0.out⟩
set_option maxHeartbeats 1000000 in
theorem tableOk_3 (m:Int) (w:World) (hm:0≤m∧m≤255) :
  Calls Tryz.prog 81 #[.agg #[.int .i64 3,.int .i64 m]] w fun e w'=>e = .returned (.bool true)∧Below w.heap.size w w':=by
 have HB0:=Lib.hid (below_new (Below.refl w.heap.size w) (.cells #[.int .i64 3,.int .i64 m] 130))
 have HR:Hid (inR 3 0 4=true):=by show _=_;decide
 have HR2:Hid (inR m 0 255=true):=inR_iff.2 hm
 clear hm
 go_enter Tryz.func81,Tryz.ntmps81
 go_wp2_with fail
 refine (inRange_any _ 0 4 _).mono ?_
 rw [HR.out]
 rintro _ w1 ⟨rfl,rfl⟩
 go_wp2_with fail
 refine (inRange_any m 0 255 _).mono ?_
 rw [HR2.out]
 rintro _ w1 ⟨rfl,rfl⟩
 go_wp2_with fail
 go_ret
 exact ⟨rfl,HB0.out⟩
set_option maxHeartbeats 1000000 in
theorem tableOk_4 (m:Int) (w:World) (hm:0≤m∧m≤65535) :
  Calls Tryz.prog 81 #[.agg #[.int .i64 4,.int .i64 m]] w fun e w'=>e = .returned (.bool true)∧Below w.heap.size w w':=by
 have HB0:=Lib.hid (below_new (Below.refl w.heap.size w) (.cells #[.int .i64 4,.int .i64 m] 130))
 have HR:Hid (inR 4 0 4=true):=by show _=_;decide
 have HR2:Hid (inR m 0 65535=true):=inR_iff.2 hm
 clear hm
 go_enter Tryz.func81,Tryz.ntmps81
 go_wp2_with fail
 refine (inRange_any _ 0 4 _).mono ?_
 rw [HR.out]
 rintro _ w1 ⟨rfl,rfl⟩
 go_wp2_with fail
 refine (inRange_any m 0 65535 _).mono ?_
 rw [HR2.out]
 rintro _ w1 ⟨rfl,rfl⟩
 go_wp2_with fail
 go_ret
 exact ⟨rfl,HB0.out⟩
theorem tableOk_yes (n:Nat) (m:Int) (w:World) (hn:n≤4) (hm:0≤m∧m<2 ^ 2 ^ n) :
  Calls Tryz.prog 81 #[.agg #[.int .i64 (n:Int),.int .i64 m]] w fun e w'=>e = .returned (.bool true)∧Below w.heap.size w w':=by
 have hc:n=0∨n=1∨n=2∨n=3∨n=4:=by omega
 rcases hc with rfl|rfl|rfl|rfl|rfl
 ·exact tableOk_0 m w ⟨hm.1,by have h:=hm.2;simp at h;omega⟩
 ·exact tableOk_1 m w ⟨hm.1,by have h:=hm.2;simp at h;omega⟩
 ·exact tableOk_2 m w ⟨hm.1,by have h:=hm.2;simp at h;omega⟩
 ·exact tableOk_3 m w ⟨hm.1,by have h:=hm.2;simp at h;omega⟩
 ·exact tableOk_4 m w ⟨hm.1,by have h:=hm.2;simp at h;omega⟩
set_option maxHeartbeats 400000 in
theorem firstLut_any (In:Int) (SA LA OA:Option Addr) (sn sc ln lc on oc:Nat) (w:World) (h0:0≤In) (h1:In≤1099511627776) (h2:sn≤1099511627776) :
  Calls Tryz.prog 80 #[.agg #[.int .i64 In,.slice SA sn sc,.slice LA ln lc,.slice OA on oc]] w fun e w'=>e = .returned (.int .i64 (1+In+(sn:Int)))∧Below w.heap.size w w':=by
 go_enter Tryz.func80,Tryz.ntmps80
 go_wp2
 go_ret
 exact ⟨rfl,below_new (Below.refl _ _) _⟩
set_option maxHeartbeats 4000000 in
theorem lutNetOk_yes (l:LNet) (SA LA OA:Option Addr) (sn sc ln lc on oc:Nat) (w:World) (h:NetRd w l SA LA OA sn sc ln lc on oc) (hf:NetFit l) :
  Calls Tryz.prog 31 #[netV l SA LA OA sn sc ln lc on oc] w fun e w'=>e = .returned (.bool true)∧Below w.heap.size w w':=by
 have HB0:=Lib.hid (below_new (Below.refl w.heap.size w) (.cells (netC l SA LA OA sn sc ln lc on oc) 61))
 have HBX:=Lib.hid (heap_new w (.cells (netC l SA LA OA sn sc ln lc on oc) 61))
 obtain ⟨hsl,hll,hol⟩:=h.lens
 have h1:=hf.nseq
 have h2:=hf.nlut
 have h3:=hf.nout
 have hin:=hf.inp
 have HN:=Lib.hid h
 have HF:=Lib.hid hf
 have HSL:=Lib.hid hsl
 have HLL:=Lib.hid hll
 have HOL:=Lib.hid hol
 have HC:Hid ((l.count:Int)=1+l.inputs+(sn:Int)+(ln:Int)):=by show _=_;unfold LNet.count LNet.first;omega
 have HFI:Hid ((l.first:Int)=1+l.inputs+(sn:Int)):=by show _=_;unfold LNet.first;omega
 have hN0:((1+l.inputs+(sn:Int)+(ln:Int))==0)=false:=by simp;omega
 have hb0:0≤1+l.inputs+(sn:Int)+(ln:Int)∧1+l.inputs+(sn:Int)+(ln:Int)≤1048576:=by omega
 have hsn12:sn≤12:=by omega
 have hln:ln≤400:=by omega
 have hon:on≤16:=by omega
 have HB1:=Lib.hid hb0
 have HIN:=Lib.hid hin
 clear h hf hsl hll hol h1 h2 h3 hin hb0
 go_enter Tryz.func31,Tryz.ntmps31
 go_wp2_with fail
 refine (lutNodes2_yes l SA LA OA sn sc ln lc on oc _ HIN.out hsn12 hln hon).mono ?_
 rintro _ w1 ⟨rfl,b1⟩
 have B1:=Lib.hid b1
 have HX1:=Lib.hid (heap_tr b1 HBX.out)
 have x1:=cell_heap (k:=1) HX1.out rfl
 have x2:=cell_heap (k:=2) HX1.out rfl
 have x3:=cell_heap (k:=3) HX1.out rfl
 have lx:=heap_lt0 HX1.out
 clear b1
 go_wp2_with fail
 refine (nodesBelow_yes OA on oc l.outs _ _ (HN.out.below (below_tr HB0.out B1.out)).ou.ints (by omega) HB1.out (by rw [←HC.out];exact HF.out.outs)).mono ?_
 rintro _ w2 ⟨rfl,rfl⟩
 go_wp2_with fail
 go_loopw [22] (fun i wr=>∃k:Nat,k≤sn∧i = .int .i64 (k:Int)∧Below w1.heap.size w1 wr) (fun i _=>sn - (intOf i).toNat)
 case atStart=>exact ⟨0,by omega,rfl,Below.refl _ _⟩
 case round =>
  obtain ⟨k,hk,rfl,hb⟩:=hrel
  have HB:=Lib.hid hb
  clear hb
  by_cases hlt:k<sn
  ·have hdk:decide ((k:Int)<(sn:Int))=true:=by simp;omega
   have HNR:=Lib.hid (HN.out.below (below_tr (below_tr HB0.out B1.out) HB.out))
   obtain ⟨b,o,S,m,p,rfl,hbl,c0,c1,c2,r2⟩:=HNR.out.sq.sq' (k:=k) (by rw [HSL.out];exact hlt)
   obtain ⟨hok,hil⟩:=HF.out.seqs k (by rw [HSL.out];exact hlt)
   have hm:(l.seqs[k]?.getD Sq.zero).ins.length=m:=r2.ints.1
   have HR2:=Lib.hid r2
   rw [hm] at hok
   generalize l.seqs[k]?.getD Sq.zero=s at *
   have HOK:=Lib.hid hok
   have HIL:=Lib.hid hil
   have hm4:m≤4:=by rcases hok with h|h <;> omega
   have i0:(0:Int)≤(k:Int):=by omega
   have i1:(k:Int)<(sn:Int):=by omega
   clear r2 hok hil hm x1 x2 x3 lx
   go_wp2_with fail
   refine (seqOk_yes s.kind s.init S m p _ HOK.out).mono ?_
   rintro _ w3 ⟨rfl,b3⟩
   have y2:=cell_heap (k:=2) (heap_tr b3 (heap_new wr (.cells #[.int .i64 s.kind,.int .i64 s.init,.slice S m p] 105))) rfl
   have ly:=heap_lt0 (heap_tr b3 (heap_new wr (.cells #[.int .i64 s.kind,.int .i64 s.init,.slice S m p] 105)))
   have HB3:=Lib.hid (below_tr (below_new (Below.refl wr.heap.size wr) (.cells #[.int .i64 s.kind,.int .i64 s.init,.slice S m p] 105)) b3)
   clear b3 c0 c1 c2
   go_wp2_with fail
   refine (nodesBelow_yes S m p s.ins _ _ (HR2.out.below HB3.out).ints (by omega) HB1.out (by rw [←HC.out];exact HIL.out)).mono ?_
   rintro _ w4 ⟨rfl,rfl⟩
   clear y2 ly
   go_wp2_with fail
   go_roundw
   case rel=>exact ⟨k+1,by omega,by go_num,below_tr HB.out HB3.out⟩
   case measure=>simp [intOf];omega
  ·have hdk:decide ((k:Int)<(sn:Int))=false:=by simp;omega
   have HX2:=Lib.hid (heap_tr HB.out HX1.out)
   clear x1 x2 x3 lx
   have x2:=cell_heap (k:=2) HX2.out rfl
   have lx:=heap_lt0 HX2.out
   obtain ⟨wo,rfl⟩:∃y,y=wr:=⟨wr,rfl⟩
   go_wp2_with fail
   go_loopw [40] (fun i wr=>∃k:Nat,k≤ln∧i = .int .i64 (k:Int)∧Below wo.heap.size wo wr) (fun i _=>ln - (intOf i).toNat)
   case atStart=>exact ⟨0,by omega,rfl,Below.refl _ _⟩
   case round =>
    obtain ⟨k,hk,rfl,hb⟩:=hrel
    have HB':=Lib.hid hb
    clear hb x2 lx
    by_cases hlt2:k<ln
    ·have hdk2:decide ((k:Int)<(ln:Int))=true:=by simp;omega
     have HNR:=Lib.hid (HN.out.below (below_tr (below_tr (below_tr HB0.out B1.out) HB.out) HB'.out))
     have HX3:=Lib.hid (heap_tr HB'.out HX2.out)
     obtain ⟨b,o,S,m,p,rfl,hbl,c0,c1,r2⟩:=HNR.out.lt.lut' (k:=k) (by rw [HLL.out];exact hlt2)
     obtain ⟨hok,hmk,hil⟩:=HF.out.luts k (by rw [HLL.out];exact hlt2)
     have hm:(l.luts[k]?.getD Lt.zero).ins.length=m:=r2.ints.1
     have HR2:=Lib.hid r2
     rw [hm] at hok hmk
     generalize l.luts[k]?.getD Lt.zero=s at *
     have HMK:=Lib.hid hmk
     have HIL:=Lib.hid hil
     have i0:(0:Int)≤(k:Int):=by omega
     have i1:(k:Int)<(ln:Int):=by omega
     clear r2 hil hm hmk
     have HW9:=Lib.hid (below_new (Below.refl wr.heap.size wr) (.cells #[.slice S m p,.int .i64 s.mask] 110))
     have y0:=cell_heap (k:=0) (heap_new wr (.cells #[.slice S m p,.int .i64 s.mask] 110)) rfl
     have y1:=cell_heap (k:=1) (heap_new wr (.cells #[.slice S m p,.int .i64 s.mask] 110)) rfl
     have ly:=heap_lt0 (heap_new wr (.cells #[.slice S m p,.int .i64 s.mask] 110))
     have hx9:=heap_tr HW9.out HX3.out
     have x0:=cell_heap (k:=0) hx9 rfl
     have x1:=cell_heap (k:=1) hx9 rfl
     have x2:=cell_heap (k:=2) hx9 rfl
     have x3:=cell_heap (k:=3) hx9 rfl
     have lx:=heap_lt0 hx9
     have hgz:wr.heap.size≠w.heap.size:=by have:=heap_lt0 HX3.out;omega
     go_upto_region 13 with fail
     generalize wr.alloc (.cells #[.slice S m p,.int .i64 s.mask] 110)=W9 at *
     have HNB:=Lib.hid (fun (x:Sub W9)=>nodesBelow_yes S m p s.ins (1+l.inputs+(sn:Int)+(k:Int)) x.v (HR2.out.below (below_tr HW9.out x.h)).ints (by omega) (by have:=HIN.out;omega) (by rw [←HFI.out];exact HIL.out))
     have HTB:=Lib.hid (fun (x:Sub W9)=>tableOk_yes m s.mask x.v hok HMK.out)
     have HFL:=Lib.hid (fun (x:Sub W9)=>firstLut_any l.inputs SA (some ⟨b,o,none⟩) OA sn sc ln lc on oc x.v HIN.out.1 (by have:=HIN.out;omega) (by omega))
     have hin0:=HIN.out.1
     have hin1:=HIN.out.2
     have hd4:decide ((4:Int)<(m:Int))=false:=decide_eq_false (by omega)
     clear c0 c1 hx9
     have hsub:=sub_ne W9
     have hsc:=sub_cell W9
     refine wp_region_below W9 (by kernel_rfl) (by kernel_rfl) (Below.refl _ _) ?_
     repeat (go_big_quiet_step ((first
      | (go_at_call 80;with_reducible exact calls_sub (HFL.out _))
      | (go_at_call 78;with_reducible exact calls_sub_same (HNB.out _))
      | (go_at_call 81;with_reducible exact calls_sub (HTB.out _)))))
     refine wpQuiet_nil ?_
     rintro _ ⟨⟨w5,hD⟩,rfl⟩
     clear hsub hsc
     have HD:=Lib.hid (below_tr HW9.out hD)
     clear hD x0 x1 x2 x3 lx y0 y1 ly
     go_wp2_with fail
     go_roundw
     case rel=>exact ⟨k+1,by omega,by go_num,below_tr HB'.out HD.out⟩
     case measure=>simp [intOf];omega
    ·have hdk2:decide ((k:Int)<(ln:Int))=false:=by simp;omega
     have HF2:=Lib.hid (below_tr (below_tr (below_tr HB0.out B1.out) HB.out) HB'.out)
     go_wp2_with fail
     go_ret
     exact ⟨rfl,HF2.out⟩
end Go.Proofs.YtignkfhdkcgkgaaGreat
