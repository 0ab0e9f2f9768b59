/- The selected source of a routing node: the reference's functions. -/
import Derived.Test.YtignkfhdkcgkgaaDrvP
import Derived.Test.YtignkfhdkcgkgaaRtS5
namespace Go.Proofs.Ytignkfhdkcgkgaa
set_option maxRecDepth 100000
open Go.RowKit

set_option maxHeartbeats 1000000 in
theorem ssources_none (d:Dev) (n:Int) (w:World) (h:nodeOk d n=false∨(nodeOk d n=true∧(n % perT d=5∨n % perT d=6))) :
  Calls Try.prog 42 #[.agg #[.int .i64 d.W,.int .i64 d.H,.int .i64 d.T,.int .i64 d.R],.int .i64 n] w fun e w'=>∃A m c,e = .returned (.slice A m c)∧Own w.heap.size w' A m c (srcs d n)∧Below w.heap.size w w':=by
 have HB0:=Lib.hid (below_new (Below.refl w.heap.size w) (.cells #[.int .i64 d.W,.int .i64 d.H,.int .i64 d.T,.int .i64 d.R] 33))
 rcases h with hno|⟨hno,h5⟩
 ·have HS:=Lib.hid (srcs_no hno)
  have HNO:Hid (∀w,Calls Try.prog 64 #[.agg #[.int .i64 d.W,.int .i64 d.H,.int .i64 d.T,.int .i64 d.R],.int .i64 n] w fun e w'=>e = .returned (.bool false)∧Below w.heap.size w w'):=fun w=>by have h:=srouteNodeOk_any d n w;rwa [hno] at h
  clear hno
  go_enter Try.func42,Try.ntmps42
  go_wp2_with fail
  refine (HNO.out _).mono ?_
  rintro e w1 ⟨rfl,b1⟩
  have N1:=Lib.hid ((Own.newAt (w:=(w.alloc (.cells #[.int .i64 d.W,.int .i64 d.H,.int .i64 d.T,.int .i64 d.R] 33))) (base:=(w.alloc (.cells #[.int .i64 d.W,.int .i64 d.H,.int .i64 d.T,.int .i64 d.R] 33)).heap.size) (g:=w.heap.size+1) (by simp) (by simp)).below b1)
  have HB1:=Lib.hid (below_tr (below_new HB0.out _) b1)
  clear b1
  go_wp2_with fail
  go_ret
  exact ⟨_,0,0,rfl,by rw [HS.out];exact N1.out.more (by simp),HB1.out⟩
 ·have HS:=Lib.hid (srcs_out h5)
  have hni:nodeIn d n=true:=by unfold nodeOk at hno;rw [Bool.and_eq_true] at hno;exact hno.1
  obtain ⟨hd,n0,n1,hq0,hq1,hr0,hr1⟩:=node_tk hni
  have hT:=devOk_bd hd
  have hp:=perT_bd hd
  have hWH:=dev_WH hd
  have HNO:Hid (∀w,Calls Try.prog 64 #[.agg #[.int .i64 d.W,.int .i64 d.H,.int .i64 d.T,.int .i64 d.R],.int .i64 n] w fun e w'=>e = .returned (.bool true)∧Below w.heap.size w w'):=fun w=>by have h:=srouteNodeOk_any d n w;rwa [hno] at h
  have e0:¬perT d=0:=by omega
  have e1:n.tmod (perT d)=n % perT d:=Int.tmod_eq_emod_of_nonneg n0
  have e2:IntKind.i64.wrap (n.tdiv (perT d))=n / perT d:=IntWalk.i64_quo _ _ ⟨n0,by omega,by omega⟩
  clear hno hni hd
  go_enter Try.func42,Try.ntmps42
  go_wp2_with fail
  refine (HNO.out _).mono ?_
  rintro e w1 ⟨rfl,b1⟩
  have N1:=Lib.hid ((Own.newAt (w:=(w.alloc (.cells #[.int .i64 d.W,.int .i64 d.H,.int .i64 d.T,.int .i64 d.R] 33))) (base:=(w.alloc (.cells #[.int .i64 d.W,.int .i64 d.H,.int .i64 d.T,.int .i64 d.R] 33)).heap.size) (g:=w.heap.size+1) (by simp) (by simp)).below b1)
  have HB1:=Lib.hid (below_tr (below_new (Below.refl _ _) _) b1:Below (w.alloc (.cells #[.int .i64 d.W,.int .i64 d.H,.int .i64 d.T,.int .i64 d.R] 33)).heap.size (w.alloc (.cells #[.int .i64 d.W,.int .i64 d.H,.int .i64 d.T,.int .i64 d.R] 33)) w1)
  have hs1:=b1.size
  simp only [World.size_alloc] at hs1
  clear b1
  obtain ⟨hcc,hff⟩:=bcell HB1.out
  go_wp2_with fail
  refine (l27Per_any d _ (by omega) (by omega)).mono ?_
  rintro e w2 ⟨rfl,b2⟩
  have HB2:=Lib.hid (below_tr HB1.out b2)
  have N2:=Lib.hid (N1.out.below b2)
  have hs2:=b2.size
  clear b2 hcc hff
  obtain ⟨hcc,hff⟩:=bcell HB2.out
  go_wp2_with fail
  refine (l27Per_any d _ (by omega) (by omega)).mono ?_
  rintro e w3 ⟨rfl,b3⟩
  have HB3:=Lib.hid (below_tr HB0.out (below_tr HB2.out b3))
  have N3:=Lib.hid (N2.out.below b3)
  clear b3 hcc hff
  generalize n % perT d=pin at *
  have h2:((pin==5)=true)∨((pin==5)=false∧(pin==6)=true):=by
   rcases h5 with h|h
   ·exact .inl (by simpa using h)
   ·exact .inr ⟨by simp;omega,by simpa using h⟩
  clear h5
  rcases h2 with q5|⟨q5,q6⟩
  all_goals
   go_wp2_with fail
   go_ret
   exact ⟨_,0,0,rfl,by rw [HS.out];exact N3.out.more (by simp),HB3.out⟩
theorem ssources_any (d:Dev) (n:Int) (w:World) :
  Calls Try.prog 42 #[.agg #[.int .i64 d.W,.int .i64 d.H,.int .i64 d.T,.int .i64 d.R],.int .i64 n] w fun e w'=>∃A m c,e = .returned (.slice A m c)∧Own w.heap.size w' A m c (srcs d n)∧Below w.heap.size w w':=by
 cases hno:nodeOk d n with
 | false=>exact ssources_none d n w (.inl hno)
 | true =>
  by_cases h5:n % perT d=5∨n % perT d=6
  ·exact ssources_none d n w (.inr ⟨hno,h5⟩)
  ·rcases Int.lt_or_le (n % perT d) 5 with h|h
   ·exact ssources_pin d n w hno h
   ·exact ssources_wire d n w hno (by omega)

set_option maxHeartbeats 4000000 in
theorem l41Drivers_any (d:Dev) (A:Option Addr) (m c:Nat) (ts:List Tile) (w:World) (hA:RdC w w.heap.size (celT ts) (.slice A m c)) (hc:CfgOk d ts) :
  Calls Try.prog 20 #[.agg #[.int .i64 d.W,.int .i64 d.H,.int .i64 d.T,.int .i64 d.R],.slice A m c] w fun e w'=>∃A' c',e = .returned (.slice A' (nodesOf d).toNat c')∧Own w.heap.size w' A' (nodesOf d).toNat c' (drvTo d ts (nodesOf d).toNat)∧Below w.heap.size w w':=by
 have HB0:=Lib.hid (below_new (Below.refl w.heap.size w) (.cells #[.int .i64 d.W,.int .i64 d.H,.int .i64 d.T,.int .i64 d.R] 33))
 have HA:=Lib.hid hA
 have HC:=Lib.hid hc
 have hT:=devOk_bd hc.dev
 have hp:=perT_bd hc.dev
 have hWH:=dev_WH hc.dev
 have hnb:=nodesOf_bd hc.dev
 have HD:=Lib.hid hc.dev
 have HRN:=Lib.hid (rn_pos hc.dev)
 obtain ⟨N,hN⟩:∃N:Nat,nodesOf d=(N:Int):=⟨(nodesOf d).toNat,by omega⟩
 have HN:=Lib.hid hN
 have HNI:Hid (∀k:Nat,k<N→nodeIn d (k:Int)=true):=by
  intro k hk
  exact nodeIn_rn.2 ⟨by omega,by rw [rn_pos hc.dev,hN];omega⟩
 have HRNC:Hid (∀w,Calls Try.prog 21 #[.agg #[.int .i64 d.W,.int .i64 d.H,.int .i64 d.T,.int .i64 d.R]] w fun e w'=>e = .returned (.int .i64 (N:Int))∧Below w.heap.size w w'):=fun w=>by have h:=sRouteNodes_any d w;rwa [rn_pos hc.dev,hN] at h
 have hNN:(nodesOf d).toNat=N:=by omega
 rw [hN] at hnb
 rw [hNN]
 clear hA hc hN hNN
 go_enter Try.func20,Try.ntmps20
 go_wp2_with fail
 have hcl0:((w.alloc (.cells #[.int .i64 d.W,.int .i64 d.H,.int .i64 d.T,.int .i64 d.R] 33)).alloc (.cells #[] 3)).cell? ⟨w.heap.size,0,none⟩=some (.int .i64 d.W):=cell_heap (heap_al _ (heap_new w _)) rfl
 refine (l27Per_any d _ (by omega) (by omega)).mono ?_
 rintro e w1 ⟨rfl,b1⟩
 have N1:=Lib.hid ((Own.newAt (w:=(w.alloc (.cells #[.int .i64 d.W,.int .i64 d.H,.int .i64 d.T,.int .i64 d.R] 33))) (base:=(w.alloc (.cells #[.int .i64 d.W,.int .i64 d.H,.int .i64 d.T,.int .i64 d.R] 33)).heap.size) (g:=w.heap.size+1) (by simp) (by simp)).below b1)
 have HB1:=Lib.hid (below_tr (below_new (Below.refl _ _) _) b1:Below (w.alloc (.cells #[.int .i64 d.W,.int .i64 d.H,.int .i64 d.T,.int .i64 d.R] 33)).heap.size (w.alloc (.cells #[.int .i64 d.W,.int .i64 d.H,.int .i64 d.T,.int .i64 d.R] 33)) w1)
 clear b1 hcl0
 have hpe0:¬perT d=0:=by omega
 go_wp2_with fail
 go_loopw [5,7] (fun v i wr=>∃(k:Nat) (A2:Option Addr) (c2:Nat),k≤N∧i = .int .i64 k∧v = .slice A2 k c2∧Own (w.alloc (.cells #[.int .i64 d.W,.int .i64 d.H,.int .i64 d.T,.int .i64 d.R] 33)).heap.size wr A2 k c2 (drvTo d ts k)∧Below (w.alloc (.cells #[.int .i64 d.W,.int .i64 d.H,.int .i64 d.T,.int .i64 d.R] 33)).heap.size (w.alloc (.cells #[.int .i64 d.W,.int .i64 d.H,.int .i64 d.T,.int .i64 d.R] 33)) wr) (fun _ i _=>N - (intOf i).toNat)
 case atStart=>exact ⟨0,_,0,by omega,rfl,rfl,by simpa [drvTo] using N1.out,HB1.out⟩
 case round =>
  obtain ⟨k,A2,c2,hk,rfl,rfl,ho,hb⟩:=hrel
  have HO:=Lib.hid ho
  have HB:=Lib.hid hb
  have hs:=hb.size
  simp only [World.size_alloc] at hs
  obtain ⟨hcc,hff⟩:=bcell hb
  clear ho hb
  by_cases hlt:k<N
  ·have hdk:decide ((k:Int)<(N:Int))=true:=by simp;omega
   have hni:=HNI.out k hlt
   have HNIK:=Lib.hid hni
   obtain ⟨_,n0,n1,hq0,hq1,hr0,hr1⟩:=node_tk hni
   have HSUC:=Lib.hid (drvTo_succ d ts k)
   clear hni
   go_wp2_with fail
   refine (HRNC.out _).mono ?_
   rintro e w2 ⟨rfl,b2⟩
   have HB2:=Lib.hid (below_tr HB.out b2)
   have HO2:=Lib.hid (HO.out.below b2)
   have hs2:=b2.size
   clear b2 hcc hff
   obtain ⟨hcc,hff⟩:=bcell HB2.out
   go_wp2_with fail
   refine (ssources_any d (k:Int) _).mono ?_
   rintro e w3 ⟨A3,l3,c3,rfl,o3,b3⟩
   have HB3:=Lib.hid (below_tr HB2.out b3)
   have HO3:=Lib.hid (HO2.out.below b3)
   have HS3:=Lib.hid o3.ints
   have hl3:=o3.len
   have hle:=srcs_le d (k:Int)
   have hs3:=b3.size
   have HA3:=Lib.hid (HA.out.below (below_tr HB0.out HB3.out))
   clear b3 o3 hcc hff
   have e1:((k:Int)).tmod (perT d)=(k:Int) % perT d:=Int.tmod_eq_emod_of_nonneg n0
   have e2:IntKind.i64.wrap (((k:Int)).tdiv (perT d))=(k:Int) / perT d:=IntWalk.i64_quo _ _ ⟨n0,by omega,by omega⟩
   by_cases hlive:nodeOk d (k:Int)=true∧¬((k:Int) % perT d=5∨(k:Int) % perT d=6)
   ·have HDX0:=Lib.hid (drvOf_live (ts:=ts) hlive.1 hlive.2)
    have hsb:=sel_bd HC.out HNIK.out hlive.2
    obtain ⟨b,o,bm,om,m3,p,rfl,hbl,ca,hbm,cb,hqm,hkm⟩:=mux_cell HA3.out HC.out HNIK.out hlive.2
    have hsi:=sel_in HNIK.out hlive.2
    have HSK:Hid (selK d (k:Int)=if (k:Int) % perT d≥7 then (k:Int) % perT d - 2 else (k:Int) % perT d):=rfl
    have hDIN:=Lib.hid (fun h h1=>drvSel_in (s:=selOf d ts (k:Int)) (src:=srcs d (k:Int)) h h1)
    have hDOUT:=Lib.hid (fun h h1=>drvSel_out (s:=selOf d ts (k:Int)) (src:=srcs d (k:Int)) h h1)
    have HL3:=Lib.hid hl3
    rw [hl3] at hle
    clear hlive hl3
    generalize selOf d ts (k:Int)=s at *
    generalize (k:Int) % perT d=pin at *
    generalize hqq:(k:Int) / perT d=q at *
    generalize hkk:selK d (k:Int)=kk at *
    clear hkk
    obtain ⟨q,rfl⟩:=Int.eq_ofNat_of_zero_le hq0
    obtain ⟨kk,rfl⟩:=Int.eq_ofNat_of_zero_le hsi.1
    rw [Int.toNat_natCast] at ca cb hqm hkm
    by_cases hl0:l3=0
    ·have HDX:Hid (drvOf d ts (k:Int)=-1):=by show _=_;rw [HDX0.out,hDOUT.out (by rw [HL3.out,hl0];omega) hsb.1]
     have hdl:decide (0<l3)=false:=by simp;omega
     clear hl0 ca cb
     go_wp2_with (at_builtin;refine wpList_push rfl _ _ rfl (w.alloc (.cells #[.int .i64 d.W,.int .i64 d.H,.int .i64 d.T,.int .i64 d.R] 33)).heap.size A2 k c2 _ (-1) rfl HO3.out rfl (by omega) (by simp;omega) HB3.out ?_;rintro g4 c4 w4 o4 b4 - -)
     go_roundw
     case rel=>exact ⟨k+1,_,c4,by omega,by go_num,rfl,by rw [HSUC.out,HDX.out];exact o4,b4⟩
     case measure=>simp [intOf];omega
    ·have hdl:decide (0<l3)=true:=by simp;omega
     have i0:(0:Int)≤(q:Int):=by omega
     have i1:(q:Int)<(m:Int):=by omega
     have i2:(0:Int)≤(kk:Int):=by omega
     have i3:(kk:Int)<(m3:Int):=by omega
     have hpk:(pin≥7∧pin - 2=(kk:Int))∨(¬pin≥7∧pin=(kk:Int)):=by
      have h:=HSK.out
      split at h
      ·exact .inl ⟨by assumption,h.symm⟩
      ·exact .inr ⟨by assumption,h.symm⟩
     clear HSK
     have hsv:(s<1∨(1≤s∧s>(l3:Int)))∨(1≤s∧s≤(l3:Int)):=by omega
     rcases hsv with hsv|⟨hs1',hsl⟩
     ·have HDX:Hid (drvOf d ts (k:Int)=-1):=by show _=_;rw [HDX0.out,hDOUT.out (by rw [HL3.out];omega) hsb.1]
      rcases hpk with ⟨h7,h7e⟩|⟨h7,h7e⟩
      ·obtain rfl:pin=(kk:Int)+2:=by omega
       have e8:IntKind.i64.wrap ((kk:Int)+2 - 2)=(kk:Int):=by rw [IntWalk.i64_in _ (by omega)];omega
       have hd7:decide ((kk:Int)+2≥7)=true:=by simpa using h7
       clear h7e
       rcases hsv with hsv|⟨hs1',hsl⟩
       ·have hds:decide (s≥1)=false:=by simp;omega
        go_wp2_with (at_builtin;refine wpList_push rfl _ _ rfl (w.alloc (.cells #[.int .i64 d.W,.int .i64 d.H,.int .i64 d.T,.int .i64 d.R] 33)).heap.size A2 k c2 _ (-1) rfl HO3.out rfl (by omega) (by simp;omega) HB3.out ?_;rintro g4 c4 w4 o4 b4 - -)
        go_roundw
        case rel=>exact ⟨k+1,_,c4,by omega,by go_num,rfl,by rw [HSUC.out,HDX.out];exact o4,b4⟩
        case measure=>simp [intOf];omega
       ·have hds:decide (s≥1)=true:=by simp;omega
        have hds2:decide (s≤(l3:Int))=false:=by simp;omega
        go_wp2_with (at_builtin;refine wpList_push rfl _ _ rfl (w.alloc (.cells #[.int .i64 d.W,.int .i64 d.H,.int .i64 d.T,.int .i64 d.R] 33)).heap.size A2 k c2 _ (-1) rfl HO3.out rfl (by omega) (by simp;omega) HB3.out ?_;rintro g4 c4 w4 o4 b4 - -)
        go_roundw
        case rel=>exact ⟨k+1,_,c4,by omega,by go_num,rfl,by rw [HSUC.out,HDX.out];exact o4,b4⟩
        case measure=>simp [intOf];omega
      ·subst h7e
       have hd7:decide ((kk:Int)≥7)=false:=by simp;omega
       rcases hsv with hsv|⟨hs1',hsl⟩
       ·have hds:decide (s≥1)=false:=by simp;omega
        go_wp2_with (at_builtin;refine wpList_push rfl _ _ rfl (w.alloc (.cells #[.int .i64 d.W,.int .i64 d.H,.int .i64 d.T,.int .i64 d.R] 33)).heap.size A2 k c2 _ (-1) rfl HO3.out rfl (by omega) (by simp;omega) HB3.out ?_;rintro g4 c4 w4 o4 b4 - -)
        go_roundw
        case rel=>exact ⟨k+1,_,c4,by omega,by go_num,rfl,by rw [HSUC.out,HDX.out];exact o4,b4⟩
        case measure=>simp [intOf];omega
       ·have hds:decide (s≥1)=true:=by simp;omega
        have hds2:decide (s≤(l3:Int))=false:=by simp;omega
        go_wp2_with (at_builtin;refine wpList_push rfl _ _ rfl (w.alloc (.cells #[.int .i64 d.W,.int .i64 d.H,.int .i64 d.T,.int .i64 d.R] 33)).heap.size A2 k c2 _ (-1) rfl HO3.out rfl (by omega) (by simp;omega) HB3.out ?_;rintro g4 c4 w4 o4 b4 - -)
        go_roundw
        case rel=>exact ⟨k+1,_,c4,by omega,by go_num,rfl,by rw [HSUC.out,HDX.out];exact o4,b4⟩
        case measure=>simp [intOf];omega
     ·obtain ⟨b5,o5,rfl,hb5,hc5⟩:=HS3.out.2 (by omega)
      have hck5:=hc5 (s.toNat - 1) (by omega)
      have HDX:Hid (drvOf d ts (k:Int)=(srcs d (k:Int))[s.toNat - 1]?.getD 0):=by show _=_;rw [HDX0.out,hDIN.out hs1' (by rw [HL3.out];exact hsl)]
      generalize (srcs d (k:Int))[s.toNat - 1]?.getD 0=X at *
      have hds:decide (s≥1)=true:=by simp;omega
      have hds2:decide (s≤(l3:Int))=true:=by simp;omega
      have j0:(0:Int)≤s - 1:=by omega
      have j1:s - 1<(l3:Int):=by omega
      clear hc5
      rcases hpk with ⟨h7,h7e⟩|⟨h7,h7e⟩
      ·obtain rfl:pin=(kk:Int)+2:=by omega
       have e8:IntKind.i64.wrap ((kk:Int)+2 - 2)=(kk:Int):=by rw [IntWalk.i64_in _ (by omega)];omega
       have hd7:decide ((kk:Int)+2≥7)=true:=by simpa using h7
       clear h7e
       go_wp2_with (at_builtin;refine wpList_push rfl _ _ rfl (w.alloc (.cells #[.int .i64 d.W,.int .i64 d.H,.int .i64 d.T,.int .i64 d.R] 33)).heap.size A2 k c2 _ X rfl HO3.out rfl (by omega) (by simp;omega) HB3.out ?_;rintro g4 c4 w4 o4 b4 - -)
       go_roundw
       case rel=>exact ⟨k+1,_,c4,by omega,by go_num,rfl,by rw [HSUC.out,HDX.out];exact o4,b4⟩
       case measure=>simp [intOf];omega
      ·subst h7e
       have hd7:decide ((kk:Int)≥7)=false:=by simp;omega
       go_wp2_with (at_builtin;refine wpList_push rfl _ _ rfl (w.alloc (.cells #[.int .i64 d.W,.int .i64 d.H,.int .i64 d.T,.int .i64 d.R] 33)).heap.size A2 k c2 _ X rfl HO3.out rfl (by omega) (by simp;omega) HB3.out ?_;rintro g4 c4 w4 o4 b4 - -)
       go_roundw
       case rel=>exact ⟨k+1,_,c4,by omega,by go_num,rfl,by rw [HSUC.out,HDX.out];exact o4,b4⟩
       case measure=>simp [intOf];omega
   ·obtain ⟨hx,hsx⟩:=drvOf_dead (ts:=ts) hlive
    have HDX:=Lib.hid hx
    have hdl:decide (0<l3)=false:=by rw [hsx] at hl3;simp at hl3;simp;omega
    clear hlive hx hsx hl3
    generalize (k:Int) % perT d=pin at *
    go_wp2_with (at_builtin;refine wpList_push rfl _ _ rfl (w.alloc (.cells #[.int .i64 d.W,.int .i64 d.H,.int .i64 d.T,.int .i64 d.R] 33)).heap.size A2 k c2 _ (-1) rfl HO3.out rfl (by omega) (by simp;omega) HB3.out ?_;rintro g4 c4 w4 o4 b4 - -)
    go_roundw
    case rel=>exact ⟨k+1,_,c4,by omega,by go_num,rfl,by rw [HSUC.out,HDX.out];exact o4,b4⟩
    case measure=>simp [intOf];omega
  ·have hkN:k=N:=by omega
   have HKN:=Lib.hid hkN
   have hdk:decide ((k:Int)<(N:Int))=false:=by simp;omega
   clear hkN
   go_wp2_with fail
   refine (HRNC.out _).mono ?_
   rintro e w2 ⟨rfl,b2⟩
   have HB2:=Lib.hid (below_tr HB0.out (below_tr HB.out b2))
   have HO2:=Lib.hid (HO.out.below b2)
   clear b2 hcc hff
   go_wp2_with fail
   go_ret
   have hkn:=HKN.out
   subst hkn
   exact ⟨A2,c2,rfl,HO2.out.more (by simp),HB2.out⟩

end Go.Proofs.Ytignkfhdkcgkgaa
