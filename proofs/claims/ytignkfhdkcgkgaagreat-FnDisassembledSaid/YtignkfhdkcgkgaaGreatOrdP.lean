/- The tracer of the program: what is behind a node of a configured device. Taking one number out of a row of numbers among the pieces: append(xs[:k], xs[k+1:]...). Networks of look-up tables as nested memory. The order in which the program places the look-up tables of a configured device. -/
import Derived.Deep.CutRange
import Derived.Deep.DeepCutAuto
import Derived.Deep.RegionLaw
import Derived.Deep.Upon
import Derived.Test.YtignkfhdkcgkgaaGreatDeco
import Derived.Test.YtignkfhdkcgkgaaGreatRq
import Derived.Test.YtignkfhdkcgkgaaGreatSep
import Derived.Test.YtignkfhdkcgkgaaGreatStartS
import Derived.Test.YtignkfhdkcgkgaaGreatTrcS
import Derived.Test.YtignkfhdkcgkgaaGreatVal
namespace Go.Proofs.YtignkfhdkcgkgaaGreat
set_option maxRecDepth 100000
open Go.RowKit

/-- A number that is known, else 0. -/
def tv (x:Int):Int:=if 0≤x then x else 0
theorem ret_ib {a b:Int} {c d:Bool} (h:a=b) (k:c=d):Ending.returned (.tuple #[.int .i64 a,.bool c]) = .returned (.tuple #[.int .i64 b,.bool d]):=by rw [h,k]
theorem tv_pos {x:Int} (h:0≤x):tv x=x:=if_pos h
structure TrAt (w:World) (gT g gI gF gM:Nat) (d:Dev) (ts:List Tile) (TA:Option Addr) (m tc:Nat) (EA DA:Option Addr) (N:Nat) (pl:List Int):Prop where
 box:w.heap[gT]?=some (.cells #[.pointer (some ⟨g,0,none⟩),.map (some gI),.map (some gF),.map (some gM)] 118 (0,0))
 emu:EmuAt w g d ts TA m tc EA DA N
 ins:NumAt w gI 1 (insL d ts)
 flops:NumAt w gF (sqB d ts) (owL d ts)
 luts:NumAt w gM (ltB d ts) pl
theorem TrAt.below {w w':World} {gT g gI gF gM:Nat} {d:Dev} {ts:List Tile} {TA:Option Addr} {m tc:Nat} {EA DA:Option Addr} {N:Nat} {pl:List Int} (h:TrAt w gT g gI gF gM d ts TA m tc EA DA N pl) (hb:Below w.heap.size w w'):TrAt w' gT g gI gF gM d ts TA m tc EA DA N pl :=
 ⟨heap_tr hb h.box,h.emu.below hb,h.ins.below hb,h.flops.below hb,h.luts.below hb⟩
theorem sqB_pos (d:Dev) (ts:List Tile):0≤sqB d ts:=by unfold sqB;omega
theorem ltB_pos (d:Dev) (ts:List Tile):0<ltB d ts:=by unfold ltB;omega
theorem leX_eq (ts:List Tile) (t p:Int) (h0:0≤p) (h1:p≤1):leX ts (2 * t+p)=leAt ts t p:=by
 obtain ⟨a,b⟩:=half_two t h0 h1
 rw [leX,a,b]
 rfl

theorem perT_any' (d:Dev) (w:World) (hd:devOk d=true):Calls Tryz.prog 76 #[.agg #[.int .i64 d.W,.int .i64 d.H,.int .i64 d.T,.int .i64 d.R]] w fun e w'=>e = .returned (.int .i64 (perT d))∧Below w.heap.size w w':=perTile_any d w (by have:=devOk_bd hd;omega) (by have:=devOk_bd hd;omega)
set_option maxHeartbeats 2000000 in
theorem behind_any (gT g gI gF gM:Nat) (d:Dev) (ts:List Tile) (TA:Option Addr) (m tc:Nat) (EA DA:Option Addr) (N:Nat) (pl:List Int) (t p:Int) (w:World)
  (H:TrAt w gT g gI gF gM d ts TA m tc EA DA N pl) (hc:CfgOk d ts) (ht:tileIn d t=true) (hp:0≤p∧p≤1) :
  Calls Tryz.prog 147 #[.pointer (some ⟨gT,0,none⟩),.int .i64 t,.int .i64 p] w fun e w'=>e = .returned (.tuple #[.int .i64 (tv (ndP d ts pl t p)),.bool (decide (0≤ndP d ts pl t p))])∧Below w.heap.size w w':=by
 obtain ⟨hlf,hl2,htl,hf⟩:=le_fit hc ht hp
 obtain ⟨hd,t0,t1⟩:=tileIn_iff.1 ht
 have hWH:=dev_WH hd
 have HT:=Lib.hid H
 obtain ⟨b,o,S,m3,q,L,l,q4,rfl,hb,ca,cl,cp,cr,-,rl⟩:=H.emu.tiles.tile htl
 change RdC w w.heap.size (celE (tileAt ts t).les) (.slice L l q4) at rl
 have hll:=rl.elen
 obtain ⟨bl,ol,S4,m4,p4,rfl,hbl,d0,d1,d2,d3,r4⟩:=rl.le (k:=p.toNat) (by omega)
 change w.cell? ⟨bl,ol+p.toNat * 4+2,none⟩=some (.int .i64 (leAt ts t p).flop) at d2
 have htt:=H.emu.tiles.tlen
 have hl:l=2:=by rw [←hll];exact hl2
 subst hl
 have z0:=cell_heap (k:=0) H.box rfl
 have z1:=cell_heap (k:=1) H.box rfl
 have z2:=cell_heap (k:=2) H.box rfl
 have z3:=cell_heap (k:=3) H.box rfl
 have x0:=cell_heap (k:=0) H.emu.box rfl
 have x1:=cell_heap (k:=1) H.emu.box rfl
 have x2:=cell_heap (k:=2) H.emu.box rfl
 have x3:=cell_heap (k:=3) H.emu.box rfl
 have x4:=cell_heap (k:=4) H.emu.box rfl
 have hgT:=heap_lt0 H.box
 have hgl:=heap_lt0 H.emu.box
 have HTK:=Lib.hid (fun w'=>tileKind_any d t w' hd t0 (by omega))
 obtain ⟨tn,rfl⟩:=Int.eq_ofNat_of_zero_le t0
 obtain ⟨en,rfl⟩:=Int.eq_ofNat_of_zero_le hp.1
 have HLX:=Lib.hid (leX_eq ts (tn:Int) (en:Int) hp.1 hp.2)
 have HN:Hid (ndP d ts pl (tn:Int) (en:Int)=if kindOf d (tn:Int)=0 then numF 1 (insL d ts) (tn:Int) else if kindOf d (tn:Int)=2 then numF (sqB d ts) (owL d ts) (2 * (tn:Int)) else if (leX ts (2 * (tn:Int)+(en:Int))).flop=1 then numF (sqB d ts) (owL d ts) (2 * (tn:Int)+(en:Int)) else if 2 * (tn:Int)+(en:Int)∈pl then numF (ltB d ts) pl (2 * (tn:Int)+(en:Int)) else -1):=rfl
 have HI0:=Lib.hid (numF_bd (base:=1) (l:=insL d ts) (x:=(tn:Int)) (by decide)).1
 have HF0:=Lib.hid (fun x=>(numF_bd (base:=sqB d ts) (l:=owL d ts) (x:=x) (sqB_pos d ts)).1)
 have HL0:=Lib.hid (fun x=>(numF_bd (base:=ltB d ts) (l:=pl) (x:=x) (by have:=ltB_pos d ts;omega)).1)
 rw [Int.toNat_natCast] at ca cl cp cr htl d0 d1 d2 d3
 have i0:(0:Int)≤(tn:Int):=t0
 have i1:(tn:Int)<(m:Int):=by omega
 have j0:(0:Int)≤(en:Int):=hp.1
 have j1:(en:Int)<2:=by omega
 have HK0:Hid (InI64 (tn:Int)):=⟨by omega,by omega⟩
 have HK1:Hid (InI64 (2 * (tn:Int))):=⟨by omega,by omega⟩
 have HK2:Hid (InI64 (2 * (tn:Int)+(en:Int))):=⟨by omega,by omega⟩
 clear H hc ht hd hf hlf rl r4 htt hll hl2 d0 d1 d3 htl ca cp cr
 have hk3:=kindOf_bd d (tn:Int)
 generalize kindOf d (tn:Int)=K at *
 generalize hX:ndP d ts pl (tn:Int) (en:Int)=X at *
 clear hX
 go_enter Tryz.func147,Tryz.ntmps147
 go_wp2_with fail
 refine (HTK.out _).mono ?_
 rintro e' w1 ⟨rfl,b1⟩
 have HB1:=Lib.hid b1
 have HT1:=Lib.hid (HT.out.below b1)
 obtain ⟨hcc,hff⟩:=bcell b1
 have k3:=below_lt b1 hbl
 have k4:=below_lt b1 hb
 have k5:=below_lt b1 hgT
 have k6:=below_lt b1 hgl
 clear b1
 rcases hk3 with rfl|rfl|rfl
 ·have HE:Hid (X=numF 1 (insL d ts) (tn:Int)):=by show _=_;rw [HN.out,if_pos rfl]
  clear HN
  go_wp2_with (at_lookup;refine wpList_numGet _ rfl _ _ rfl gI 1 (insL d ts) rfl HT1.out.ins (tn:Int) rfl HK0.out ?_)
  go_ret2
  exact ⟨ret_ib (by rw [HE.out,tv_pos HI0.out]) (by rw [HE.out,decide_eq_true HI0.out]),HB1.out⟩
 ·by_cases hf1:(leAt ts (tn:Int) (en:Int)).flop=1
  ·have q1:((leAt ts (tn:Int) (en:Int)).flop==1)=true:=by simpa using hf1
   have HE:Hid (X=numF (sqB d ts) (owL d ts) (2 * (tn:Int)+(en:Int))):=by show _=_;rw [HN.out,if_neg (by decide),if_neg (by decide),HLX.out,if_pos hf1]
   clear HN hf1
   go_wp2_with (at_lookup;refine wpList_numGet _ rfl _ _ rfl gF (sqB d ts) (owL d ts) rfl HT1.out.flops (2 * (tn:Int)+(en:Int)) rfl HK2.out ?_)
   go_ret2
   exact ⟨ret_ib (by rw [HE.out,tv_pos (HF0.out _)]) (by rw [HE.out,decide_eq_true (HF0.out _)]),HB1.out⟩
  ·have q1:((leAt ts (tn:Int) (en:Int)).flop==1)=false:=by simpa using hf1
   have HE:Hid (X=if 2 * (tn:Int)+(en:Int)∈pl then numF (ltB d ts) pl (2 * (tn:Int)+(en:Int)) else -1):=by show _=_;rw [HN.out,if_neg (by decide),if_neg (by decide),HLX.out,if_neg hf1]
   have HR:Hid (numF (ltB d ts) pl (2 * (tn:Int)+(en:Int))=tv X∧decide (2 * (tn:Int)+(en:Int)∈pl)=decide (0≤X)):=by
    show _∧_
    rw [HE.out]
    by_cases hm:2 * (tn:Int)+(en:Int)∈pl
    ·rw [if_pos hm,tv_pos (HL0.out _),decide_eq_true hm,decide_eq_true (HL0.out _)]
     exact ⟨rfl,rfl⟩
    ·rw [if_neg hm,decide_eq_false hm]
     unfold numF
     rw [if_neg hm]
     exact ⟨rfl,rfl⟩
   clear HN hf1 HE
   go_wp2_with (at_lookup;refine wpList_numOk _ rfl _ _ rfl gM (ltB d ts) pl rfl HT1.out.luts (2 * (tn:Int)+(en:Int)) rfl HK2.out ?_;rw [HR.out.1,HR.out.2])
   go_ret2
   exact ⟨rfl,HB1.out⟩
 ·have HE:Hid (X=numF (sqB d ts) (owL d ts) (2 * (tn:Int))):=by show _=_;rw [HN.out,if_neg (by decide),if_pos rfl]
  clear HN
  go_wp2_with (at_lookup;refine wpList_numGet _ rfl _ _ rfl gF (sqB d ts) (owL d ts) rfl HT1.out.flops (2 * (tn:Int)) rfl HK1.out ?_)
  go_ret2
  exact ⟨ret_ib (by rw [HE.out,tv_pos (HF0.out _)]) (by rw [HE.out,decide_eq_true (HF0.out _)]),HB1.out⟩

/-! ### a trace -/
theorem trF_pin {d:Dev} {ts:List Tile} {pl:List Int} {n:Int} (f:Nat) (h:n % perT d=5∨n % perT d=6):trF d ts pl (f+1) n=ndP d ts pl (n / perT d) (n % perT d - 5):=by rw [trF,if_pos h]
theorem trF_none {d:Dev} {ts:List Tile} {pl:List Int} {n:Int} (f:Nat) (h:¬(n % perT d=5∨n % perT d=6)) (h0:drvOf d ts n<0):trF d ts pl (f+1) n=0:=by rw [trF,if_neg h,if_pos h0]
theorem trF_step {d:Dev} {ts:List Tile} {pl:List Int} {n:Int} (f:Nat) (h:¬(n % perT d=5∨n % perT d=6)) (h0:¬drvOf d ts n<0):trF d ts pl (f+1) n=trF d ts pl f (drvOf d ts n):=by rw [trF,if_neg h,if_neg h0]
set_option maxHeartbeats 2000000 in
theorem trace_any (gT g gI gF gM:Nat) (d:Dev) (ts:List Tile) (TA:Option Addr) (m tc:Nat) (EA DA:Option Addr) (N:Nat) (pl:List Int) (n0:Int) (w:World)
  (H:TrAt w gT g gI gF gM d ts TA m tc EA DA N pl) (hN:(N:Int)=nodesOf d) (hc:CfgOk d ts) (hn:nodeIn d n0=true) :
  Calls Tryz.prog 75 #[.pointer (some ⟨gT,0,none⟩),.int .i64 n0] w fun e w'=>e = .returned (.tuple #[.int .i64 (tv (tr d ts pl n0)),.bool (decide (0≤tr d ts pl n0))])∧Below w.heap.size w w':=by
 have hnb:=nodesOf_bd hc.dev
 have HT:=Lib.hid H
 have z0:=cell_heap (k:=0) H.box rfl
 have x0:=cell_heap (k:=0) H.emu.box rfl
 have x1:=cell_heap (k:=1) H.emu.box rfl
 have x2:=cell_heap (k:=2) H.emu.box rfl
 have x3:=cell_heap (k:=3) H.emu.box rfl
 have x6:=cell_heap (k:=6) H.emu.box rfl
 have hgT:=heap_lt0 H.box
 have hgl:=heap_lt0 H.emu.box
 obtain ⟨b,o,rfl,hbl,hcd⟩:=H.emu.drv.2 (by omega)
 have HCD:=Lib.hid hcd
 have HNE:=Lib.hid hN
 have HC:=Lib.hid hc
 have HD:=Lib.hid hc.dev
 have HTR:Hid (tr d ts pl n0=trF d ts pl (N+1) n0):=by show _=_;unfold tr;rw [show (nodesOf d).toNat=N by omega]
 have HNI:=Lib.hid hn
 have HRN:Hid (∀w,Calls Tryz.prog 140 #[.agg #[.int .i64 d.W,.int .i64 d.H,.int .i64 d.T,.int .i64 d.R]] w fun e w'=>e = .returned (.int .i64 (N:Int))∧Below w.heap.size w w'):=fun w=>by have h:=routeNodes_any d w hc.dev;rwa [←hN] at h
 rw [←hN] at hnb
 have HB0:=Lib.hid (below_new (Below.refl w.heap.size w) (.cells #[.int .i64 d.W,.int .i64 d.H,.int .i64 d.T,.int .i64 d.R] 25))
 clear H hc hn hcd hN
 generalize hX:tr d ts pl n0=X at *
 clear hX
 go_enter Tryz.func75,Tryz.ntmps75
 go_wp2_with fail
 go_loopw [1,7] (fun nd s wr=>∃(k:Nat) (n:Int),k≤N+1∧s = .int .i64 k∧nd = .int .i64 n∧nodeIn d n=true∧X=trF d ts pl (N+1 - k) n∧Below (w.alloc (.cells #[.int .i64 d.W,.int .i64 d.H,.int .i64 d.T,.int .i64 d.R] 25)).heap.size (w.alloc (.cells #[.int .i64 d.W,.int .i64 d.H,.int .i64 d.T,.int .i64 d.R] 25)) wr) (fun _ s _=>N+1 - (intOf s).toNat)
 case atStart=>exact ⟨0,n0,by omega,rfl,rfl,HNI.out,HTR.out,Below.refl _ _⟩
 case round =>
  obtain ⟨k,n,hk,rfl,rfl,hn,hX,hb⟩:=hrel
  have HB:=Lib.hid hb
  have HNN:=Lib.hid hn
  have HXX:=Lib.hid hX
  obtain ⟨hcc,hff⟩:=bcell hb
  have hsz:=hb.size
  have hwl:w.heap.size<wr.heap.size:=by simp only [World.size_alloc] at hsz;omega
  clear hb hn hX
  by_cases hlt:k≤N
  ·have hdk:decide ((k:Int)≤(N:Int))=true:=by simp;omega
   go_wp2_with fail
   refine (HRN.out _).mono ?_
   rintro e w1 ⟨rfl,b1⟩
   have HB1:=Lib.hid (below_tr HB.out b1)
   have hs1:=b1.size
   clear b1 hcc hff
   obtain ⟨hcc,hff⟩:=bcell HB1.out
   have ht:=node_tile HNN.out
   have HTI:=Lib.hid ht
   obtain ⟨_,n0',n1,hq0,hq1,hr0,hr1⟩:=node_tk HNN.out
   have HF:Hid (N+1 - k=N - k+1):=by show _=_;omega
   by_cases h5:n % perT d=5∨n % perT d=6
   ·obtain ⟨p,hp,hp5⟩:∃p:Int,(p=0∨p=1)∧n % perT d=5+p:=by rcases h5 with h|h;exact ⟨0,.inl rfl,by omega⟩;exact ⟨1,.inr rfl,by omega⟩
    have HX2:Hid (X=ndP d ts pl (n / perT d) p):=by show _=_;rw [HXX.out,HF.out,trF_pin _ h5,hp5];congr 1;omega
    have HNP:Hid (∀w,Calls Tryz.prog 117 #[.agg #[.int .i64 d.W,.int .i64 d.H,.int .i64 d.T,.int .i64 d.R],.int .i64 n] w fun e w'=>e = .returned (.tuple #[.int .i64 (n / perT d),.int .i64 (5+p)])∧Below w.heap.size w w'):=fun w=>by have h:=nodePlace_any d n w HNN.out;rwa [hp5] at h
    have HP:Hid (0≤p∧p≤1):=by show _∧_;omega
    clear h5 hp5 ht hr0 hr1
    generalize n / perT d=q at *
    rcases hp with rfl|rfl
    all_goals
     go_wp2_with fail
     refine (HNP.out _).mono ?_
     rintro e w2 ⟨rfl,b2⟩
     have HB2:=Lib.hid (below_tr HB1.out b2)
     have hs2:=b2.size
     clear b2 hcc hff
     obtain ⟨hcc,hff⟩:=bcell HB2.out
     go_wp2_with fail
     refine (behind_any gT g gI gF gM d ts TA m tc EA _ N pl q _ _ (HT.out.below (HB0.out.trans (HB2.out.mono HB0.out.size))) HC.out HTI.out HP.out).mono ?_
     rintro e w3 ⟨rfl,b3⟩
     have HB3:=Lib.hid (below_tr HB0.out (below_tr HB2.out b3))
     clear b3 hcc hff
     go_wp2_with fail
     go_ret2
     exact ⟨ret_ib (by rw [HX2.out]) (by rw [HX2.out]),HB3.out⟩
   ·go_wp2_with fail
    refine (nodePlace_any d n _ HNN.out).mono ?_
    rintro e w2 ⟨rfl,b2⟩
    have HB2:=Lib.hid (below_tr HB1.out b2)
    have hs2:=b2.size
    clear b2 hcc hff
    obtain ⟨hcc,hff⟩:=bcell HB2.out
    have hp5:(n % perT d==5)=false:=by simp;omega
    have hp6:(n % perT d==6)=false:=by simp;omega
    have hnn:=(nodeIn_rnP.1 HNN.out).2.2
    rw [←HNE.out] at hnn
    obtain ⟨nn,rfl⟩:=Int.eq_ofNat_of_zero_le n0'
    have hck:=HCD.out nn (by omega)
    rw [drvTo_get (by omega)] at hck
    have i0:(0:Int)≤(nn:Int):=by omega
    have i1:(nn:Int)<(N:Int):=by omega
    have hbr:b<w2.heap.size:=by simp only [World.size_alloc] at hsz;omega
    have HDN:=Lib.hid (fun h=>(drv_node (n:=(nn:Int)) HC.out h).1)
    have HX0:=Lib.hid (fun h0=>(HXX.out.trans (by rw [HF.out])).trans (trF_none (d:=d) (ts:=ts) (pl:=pl) (n:=(nn:Int)) (N - k) h5 h0))
    have HX1:=Lib.hid (fun h0=>(HXX.out.trans (by rw [HF.out])).trans (trF_step (d:=d) (ts:=ts) (pl:=pl) (n:=(nn:Int)) (N - k) h5 h0))
    generalize drvOf d ts (nn:Int)=s at *
    clear h5 ht
    by_cases hs0:s<0
    ·have hds:decide (s<0)=true:=by simpa using hs0
     have HX2:=Lib.hid (HX0.out hs0)
     have HB3:=Lib.hid (below_tr HB0.out HB2.out)
     go_wp2_with fail
     go_ret2
     exact ⟨ret_ib (by rw [HX2.out];rfl) (by rw [HX2.out];rfl),HB3.out⟩
    ·have hds:decide (s<0)=false:=by simpa using hs0
     have HX2:=Lib.hid (HX1.out hs0)
     have HN2:=Lib.hid (HDN.out (by omega))
     clear hs0
     go_wp2_with fail
     go_roundw
     case rel=>exact ⟨k+1,s,by omega,by go_num,rfl,HN2.out,by rw [HX2.out];congr 1;omega,HB2.out⟩
     case measure=>simp [intOf];omega
  ·have hdk:decide ((k:Int)≤(N:Int))=false:=by simp;omega
   have HX2:Hid (X=-2):=by show _=_;rw [HXX.out,show N+1 - k=0 by omega];rfl
   go_wp2_with fail
   refine (HRN.out _).mono ?_
   rintro e w1 ⟨rfl,b1⟩
   have HB1:=Lib.hid (below_tr HB0.out (below_tr HB.out b1))
   clear b1 hcc hff
   go_wp2_with fail
   go_ret2
   exact ⟨ret_ib (by rw [HX2.out];rfl) (by rw [HX2.out];rfl),HB1.out⟩
/-! ### the four signals of a look-up table -/
theorem selN_bd {d:Dev} {ts:List Tile} {pl:List Int} {t p s:Int} {k:Nat} (h0:0≤p) (h1:p≤1) (hs:(leAt ts t p).sel[k]?.getD 0=s) :
  selN d ts pl (2 * t+p) k=if 0<s then tr d ts pl (t * perT d+s - 1) else 0:=by
 unfold selN
 rw [leX_eq ts t p h0 h1,hs,(half_two t h0 h1).1]
def SelPost (w:World) (K:Bool) (xs:List Int) (e:Ending) (w':World):Prop:=∃A n c,e = .returned (.tuple #[.slice A n c,.bool K])∧Own w.heap.size w' A n c (if K=true then xs else [])∧Below w.heap.size w w'
theorem selPost_no {w w':World} {K:Bool} {xs:List Int} (h:K=false) (hb:Below w.heap.size w w'):SelPost w K xs (.returned (.tuple #[.slice none 0 0,.bool false])) w':=by subst h;exact ⟨none,0,0,rfl,Own.nil,hb⟩
theorem selPost_yes {w w':World} {K:Bool} {xs:List Int} {A:Option Addr} {n c:Nat} (h:K=true) (ho:Own w.heap.size w' A n c xs) (hb:Below w.heap.size w w'):SelPost w K xs (.returned (.tuple #[.slice A n c,.bool true])) w':=by subst h;exact ⟨A,n,c,rfl,ho,hb⟩
set_option maxHeartbeats 4000000 in
theorem selected_any (gT g gI gF gM:Nat) (d:Dev) (ts:List Tile) (TA:Option Addr) (m tc:Nat) (EA DA:Option Addr) (N:Nat) (pl:List Int) (t p:Int) (w:World)
  (H:TrAt w gT g gI gF gM d ts TA m tc EA DA N pl) (hN:(N:Int)=nodesOf d) (hc:CfgOk d ts) (ht:tileIn d t=true) (hp:0≤p∧p≤1) :
  Calls Tryz.prog 145 #[.pointer (some ⟨gT,0,none⟩),.int .i64 t,.int .i64 p] w (SelPost w (known d ts pl (2 * t+p)) (selTo d ts pl (2 * t+p) 4)):=by
 obtain ⟨hlf,hl2,htl,hf⟩:=le_fit hc ht hp
 obtain ⟨hd,t0,t1⟩:=tileIn_iff.1 ht
 have hWH:=dev_WH hd
 have hpb:=perT_bd hd
 have hTb:=devOk_bd hd
 have HT:=Lib.hid H
 obtain ⟨b,o,S,m3,q,L,l,q4,rfl,hb,ca,cl,cp,cr,-,rl⟩:=H.emu.tiles.tile htl
 change RdC w w.heap.size (celE (tileAt ts t).les) (.slice L l q4) at rl
 have hll:=rl.elen
 obtain ⟨bl,ol,S4,m4,p4,rfl,hbl,d0,d1,d2,d3,r4⟩:=rl.le (k:=p.toNat) (by omega)
 change RdC w w.heap.size (celI (leAt ts t p).sel) (.slice S4 m4 p4) at r4
 have htt:=H.emu.tiles.tlen
 have hl:l=2:=by rw [←hll];exact hl2
 subst hl
 obtain ⟨hs4,hs7⟩:=sel_fit hlf
 have hm4:m4=4:=by rw [←r4.ints.1];exact hs4
 subst hm4
 obtain ⟨bs,os,rfl,hbs,hcs⟩:=r4.ints.2 (by omega)
 have z0:=cell_heap (k:=0) H.box rfl
 have x0:=cell_heap (k:=0) H.emu.box rfl
 have x1:=cell_heap (k:=1) H.emu.box rfl
 have x2:=cell_heap (k:=2) H.emu.box rfl
 have x3:=cell_heap (k:=3) H.emu.box rfl
 have x4:=cell_heap (k:=4) H.emu.box rfl
 have hgT:=heap_lt0 H.box
 have hgl:=heap_lt0 H.emu.box
 have HCS:=Lib.hid hcs
 have HS7:=Lib.hid hs7
 have HC:=Lib.hid hc
 have HNE:=Lib.hid hN
 have HTI:=Lib.hid ht
 have HPT:=Lib.hid (fun w=>perT_any' d w hc.dev)
 have hmul0:0≤t * perT d:=Int.mul_nonneg t0 (by omega)
 have hmul1:t * perT d≤36 * 23:=Int.mul_le_mul (by omega) (by omega) (by omega) (by omega)
 have HND:=Lib.hid (fun (s:Int) (h0:0<s) (h7:s≤7)=>by have h:=(node_at (k:=s - 1) ht (by omega) (by have:=perT_bd hd;omega)).1;rwa [←Int.add_sub_assoc] at h:∀s:Int,0<s→s≤7→nodeIn d (t * perT d+s - 1)=true)
 have HSN:=Lib.hid (fun (k:Nat) (s:Int) (hs:(leAt ts t p).sel[k]?.getD 0=s)=>selN_bd (d:=d) (pl:=pl) (k:=k) hp.1 hp.2 hs)
 obtain ⟨tn,rfl⟩:=Int.eq_ofNat_of_zero_le t0
 obtain ⟨en,rfl⟩:=Int.eq_ofNat_of_zero_le hp.1
 rw [Int.toNat_natCast] at ca cl cp cr htl d0 d1 d2 d3
 have i0:(0:Int)≤(tn:Int):=t0
 have i1:(tn:Int)<(m:Int):=by omega
 have j0:(0:Int)≤(en:Int):=hp.1
 have j1:(en:Int)<2:=by omega
 clear H hc ht hd hf hlf rl r4 htt hll hl2 d1 d2 d3 htl ca cp cr hcs hs7 hN hs4 hTb
 generalize hX:2 * (tn:Int)+(en:Int)=X at *
 clear hX
 generalize hle:leAt ts (tn:Int) (en:Int)=le at *
 clear hle
 go_enter Tryz.func145,Tryz.ntmps145
 go_wp2_with fail
 go_loopw [8,29] (fun out i wr=>∃(k:Nat) (A:Option Addr) (c:Nat),k≤4∧i = .int .i64 k∧out = .slice A k c∧knownTo d ts pl X k=true∧Own w.heap.size wr A k c (selTo d ts pl X k)∧Below w.heap.size w wr) (fun _ i _=>4 - (intOf i).toNat)
 case atStart=>exact ⟨0,none,0,by omega,rfl,rfl,rfl,Own.nil,Below.refl _ _⟩
 case round =>
  obtain ⟨k,A,c,hk,rfl,rfl,hkn,ho,hb'⟩:=hrel
  have HKN:=Lib.hid hkn
  have HO:=Lib.hid ho
  have HB:=Lib.hid hb'
  have hsz:=hb'.size
  obtain ⟨hcc,hff⟩:=bcell hb'
  clear hkn ho hb'
  by_cases hlt:k<4
  ·have hck:=HCS.out k hlt
   have h7:=HS7.out k hlt
   have HSE:=Lib.hid (HSN.out k _ rfl)
   have HKS:=Lib.hid (knownTo_succ d ts pl X k)
   have HTS:=Lib.hid (selTo_succ d ts pl X k)
   have HKF:=Lib.hid (fun h=>known_false (d:=d) (ts:=ts) (pl:=pl) (x:=X) hlt h)
   generalize le.sel[k]?.getD 0=s at *
   generalize hU:selN d ts pl X k=U at *
   clear hU
   have i3:(0:Int)≤(k:Int):=by omega
   have i4:(k:Int)<4:=by omega
   have k1:bs<wr.heap.size:=by omega
   by_cases hs0:0<s
   ·have hds:decide (s>0)=true:=by simpa using hs0
    have HU:Hid (U=tr d ts pl ((tn:Int) * perT d+s - 1)):=by show _=_;rw [HSE.out,if_pos hs0]
    have HNI:=Lib.hid (HND.out s hs0 h7.2)
    clear HSE
    generalize perT d=P at *
    go_wp2_with fail
    refine (HPT.out _).mono ?_
    rintro e w1 ⟨rfl,b1⟩
    have HB1:=Lib.hid (below_tr HB.out b1)
    have HO1:=Lib.hid (HO.out.below b1)
    have hs1:=b1.size
    clear b1 hcc hff
    obtain ⟨hcc,hff⟩:=bcell HB1.out
    go_wp2_with fail
    refine (trace_any gT g gI gF gM d ts _ m tc EA DA N pl _ _ (HT.out.below HB1.out) HNE.out HC.out HNI.out).mono ?_
    rw [←HU.out]
    rintro e w2 ⟨rfl,b2⟩
    have HB2:=Lib.hid (below_tr HB1.out b2)
    have HO2:=Lib.hid (HO1.out.below b2)
    have hs2:=b2.size
    have hsz2:w.heap.size≤w2.heap.size:=by omega
    clear b2 hcc hff
    by_cases hu:0≤U
    ·have hdu:decide (0≤U)=true:=by simpa using hu
     have HV:=Lib.hid (tv_pos hu)
     rw [HV.out,hdu]
     clear hdu
     go_wp2_with (at_builtin;refine wpList_push rfl _ _ rfl w.heap.size A k c (selTo d ts pl X k) _ rfl HO2.out rfl (by omega) hsz2 HB2.out ?_;rintro g9 cap w9 o9 b9 - -)
     have R9:=Lib.hid (And.intro o9 b9)
     clear o9 b9
     go_roundw
     case rel=>exact ⟨k+1,_,_,by omega,by go_num,rfl,by rw [HKS.out,HKN.out,decide_eq_true hu];rfl,by rw [HTS.out];exact R9.out.1,R9.out.2⟩
     case measure=>simp [intOf];omega
    ·have hdu:decide (0≤U)=false:=by simpa using hu
     have HKF2:=Lib.hid (HKF.out (by omega))
     rw [hdu]
     clear hdu
     go_wp2_with fail
     go_ret2
     exact selPost_no HKF2.out HB2.out
   ·have hds:decide (s>0)=false:=by simpa using hs0
    have HU:Hid (U=0):=by show _=_;rw [HSE.out,if_neg hs0]
    clear HSE hs0
    go_wp2_with (at_builtin;refine wpList_push rfl _ _ rfl w.heap.size A k c (selTo d ts pl X k) _ rfl HO.out rfl (by omega) hsz HB.out ?_;rintro g9 cap w9 o9 b9 - -)
    have R9:=Lib.hid (And.intro o9 b9)
    clear o9 b9
    go_roundw
    case rel=>exact ⟨k+1,_,_,by omega,by go_num,rfl,by rw [HKS.out,HKN.out,HU.out];rfl,by rw [HTS.out,HU.out];exact R9.out.1,R9.out.2⟩
    case measure=>simp [intOf];omega
  ·have hk4:k=4:=by omega
   subst hk4
   have HKN2:Hid (known d ts pl X=true):=HKN
   go_wp2_with fail
   go_ret2
   exact selPost_yes HKN2.out HO.out HB.out
end Go.Proofs.YtignkfhdkcgkgaaGreat

namespace Go.Proofs.YtignkfhdkcgkgaaGreat
set_option maxRecDepth 100000
open Go.RowKit

theorem only_setCells (g:Nat):∀(L:List Value) (o:Nat) (w:World),Only [g] w (w.setCells g o L)
 | [],_,w=>Only.refl _ w
 | v :: L,o,w=>(only_set (p:=⟨g,o,none⟩) (by simp) v).trans (only_setCells g L (o+1) _)
theorem set_mid {α:Type} {l L:List α} {o:Nat} {v:α} (ho:o<l.length):(l.set o v).take (o+1)++L++(l.set o v).drop (o+1+L.length)=l.take o++v :: L++l.drop (o+(L.length+1)):=by
 have e:l.set o v=l.take o++v :: l.drop (o+1):=by rw [List.set_eq_take_append_cons_drop,if_pos ho]
 have hl:(l.take o).length=o:=by simp;omega
 rw [e,List.take_append,List.drop_append,hl,show o+1 - o=1 by omega,show o+1+L.length - o=L.length+1 by omega,List.take_of_length_le (l:=l.take o) (by omega),List.drop_of_length_le (l:=l.take o) (by omega),List.drop_succ_cons,List.drop_drop,show o+1+L.length=o+(L.length+1) by omega]
 simp
theorem heap_setCells {g:Nat} {t:TypeId}:∀(L:List Value) (o:Nat) (w:World) (cs:Array Value),w.heap[g]?=some (.cells cs t (0,0))→o+L.length≤cs.size →
  ∃cs':Array Value,(w.setCells g o L).heap[g]?=some (.cells cs' t (0,0))∧cs'.size=cs.size∧cs'.toList=cs.toList.take o++L++cs.toList.drop (o+L.length)
 | [],o,w,cs,h,_=>⟨cs,h,rfl,by simp⟩
 | v :: L,o,w,cs,h,hl=>by
  rw [List.length_cons] at hl
  obtain ⟨cs',h1,h2,h3⟩:=heap_setCells L (o+1) (w.setCell ⟨g,o,none⟩ v) (cs.setIfInBounds o v) (heap_set h o v) (by simp;omega)
  refine ⟨cs',h1,by simpa using h2,?_⟩
  rw [h3,Array.toList_setIfInBounds,List.length_cons]
  exact set_mid (by simp;omega)
section
variable {ops:Array Oper} {o:Oper} {a:Act} {Q:Exit→Act→World→Prop} {K:Act→World→Prop} {E:Prop} {w W:World}
theorem step_sepDel (hgd:o.guard=none) (s x:Operand)
  (ho:o.op = .call { callee := .builtin .append,args:=#[s,x],argTypes:=#[27,27] })
  (ps:List Pc) (S:Sepa W w ps) (i k n c m c':Nat) (g:Nat) (ad:Addr) (xs:List Int) (hi:ps[i]?=some (.cel (celI xs) (.slice (some ⟨g,0,none⟩) n c))) (hk:k<n) (hs:a.eval s = .slice (some ⟨g,0,none⟩) k c) (hx:a.eval x = .slice (some ad) m c') (hm:k+1+m=n) (had:0<m→ad=⟨g,k+1,none⟩)
  (h:∀w',Sepa W w' (ps.set i (.cel (celI (xs.eraseIdx k)) (.slice (some ⟨g,0,none⟩) (n - 1) c)))→w.heap.size≤w'.heap.size→K (a.put o.dst (.slice (some ⟨g,0,none⟩) (n - 1) c)) w') :
  if Region.wanted o (yielded ops a.tmps)=true then Oper.wp Tryz.prog o a w K Q else E:=by
 obtain ⟨i0,hi0,_,hz1,_⟩:=info_parts int_info
 obtain ⟨F,k1,k2,k3,k4⟩:=S.part i hi
 obtain ⟨hown,rfl⟩:=ownC_ints.1 k1
 have hlen:=hown.len
 rcases hown.2 with ⟨hv,_⟩|⟨g',cap,cur,hv,_,hh,hnc,hcm,hsz,ht⟩
 ·cases hv
 ·injection hv with hA _ hc
  injection hA with hA
  injection hA with hA
  subst hA hc
  rw [Nat.mul_one] at hsz ht
  have hcell:∀j,j<n→w.cell? ⟨g,j,none⟩=some (.int .i64 (xs[j]?.getD 0)):=fun j hj=>by
   obtain ⟨b,o',e,_,hc⟩:=hown.ints.2 (by omega)
   injection e with e
   injection e with e1 e2
   subst e1 e2
   have:=hc j hj
   rwa [Nat.zero_add] at this
  have hcur:∀j,j<c→(w.cell? ⟨g,j,none⟩).isSome=true∧w.frozen? ⟨g,j,none⟩=false:=fun j hj=>by
   refine ⟨?_,frozen_heap hh j⟩
   rw [cell_heap (k:=j) hh (Array.getElem?_eq_getElem (by omega))]
   rfl
  have hnews:((xs.drop (k+1)).map (Value.int .i64)).length=m:=by simp;omega
  refine step_append_room hgd s x 27 ho 3 i0 1 Tryz.underlying27 hi0 hz1 g 0 k c hs ad m c' ((xs.drop (k+1)).map (Value.int .i64)) hx (by rw [hnews,Nat.mul_one]) (fun j u hu=>?_) (fun u hu=>?_) (by omega) (fun j hj=>?_) ?_
  ·have hj:j<m:=by rw [←hnews];exact (List.getElem?_eq_some_iff.1 hu).1
   rw [had (by omega),Addr.add_lit,hcell (k+1+j) (by omega),←hu]
   simp [List.getElem?_drop,List.getElem?_eq_getElem (show k+1+j<xs.length by omega)]
  ·obtain ⟨y,_,rfl⟩:=List.mem_map.1 hu
   rfl
  ·rw [hnews] at hj
   rw [Nat.zero_add,Nat.mul_one]
   exact hcur (k+j) (by omega)
  ·rw [Nat.zero_add,Nat.mul_one,show k+m=n - 1 by omega]
   obtain ⟨cs',h1,h2,h3⟩:=heap_setCells ((xs.drop (k+1)).map (Value.int .i64)) k w cur hh (by rw [hnews];omega)
   refine h _ (k4 _ _ (blk (some ⟨g,0,none⟩)) (ownC_ints.2 ⟨⟨by rw [List.length_map,List.length_eraseIdx,if_pos (by omega)];omega,.inr ⟨g,c,cs',rfl,Nat.zero_le _,h1,by omega,hcm,by rw [Nat.mul_one,h2,hsz],?_⟩⟩,rfl⟩) k2 (fun k hk => .inl hk) (only_setCells g _ k w)) (only_setCells g _ k w).size
   rw [Nat.mul_one,h3,hnews,List.eraseIdx_eq_take_drop_succ,List.map_append]
   have hkl:(cur.toList.take k).length=k:=by simp;omega
   have hL:(cur.toList.take k++(xs.drop (k+1)).map (Value.int .i64)).length=n - 1:=by rw [List.length_append,hkl,hnews];omega
   rw [List.take_append_of_le_length (by rw [hL];exact Nat.le_refl _),List.take_of_length_le (by rw [hL];exact Nat.le_refl _)]
   congr 1
   rw [List.map_take,←ht,List.take_take,Nat.min_eq_left (by omega)]
end
end Go.Proofs.YtignkfhdkcgkgaaGreat

namespace Go.Proofs.YtignkfhdkcgkgaaGreat
set_option maxRecDepth 100000
open Go.RowKit

/-! ### networks -/
def Lt.cells (l:Lt):List Cel:=[celI l.ins,.int l.mask]
def Sq.cells (s:Sq):List Cel:=[.int s.kind,.int s.init,celI s.ins]
def celLt (ls:List Lt):Cel := .row 110 2 (ls.flatMap Lt.cells)
def celSq (ss:List Sq):Cel := .row 105 3 (ss.flatMap Sq.cells)
theorem Lt.cells_length (l:Lt):l.cells.length=2:=rfl
theorem Sq.cells_length (s:Sq):s.cells.length=3:=rfl
theorem lts_snoc (xs:List Lt) (x:Lt):(xs++[x]).flatMap Lt.cells=xs.flatMap Lt.cells++x.cells:=by simp
theorem sqs_snoc (xs:List Sq) (x:Sq):(xs++[x]).flatMap Sq.cells=xs.flatMap Sq.cells++x.cells:=by simp
theorem flatS_length {α:Type} {f:α→List Cel} {s:Nat} (hf:∀x,(f x).length=s) (xs:List α):(xs.flatMap f).length=xs.length * s:=by rw [flat_length hf,Nat.mul_comm]
theorem flatS_at {α:Type} {f:α→List Cel} {s:Nat} (hf:∀x,(f x).length=s) {xs:List α} {k j:Nat} {x:α} (h:xs[k]?=some x) (hj:j<s):(xs.flatMap f)[k * s+j]?=(f x)[j]?:=by rw [Nat.mul_comm];exact flat_get hf h hj
theorem flatS_set {α:Type} {f:α→List Cel} {s:Nat} (hf:∀x,(f x).length=s):∀{xs:List α} {k j:Nat} {x y:α} {c:Cel},xs[k]?=some x→j<s→f y=(f x).set j c→(xs.flatMap f).set (k * s+j) c=(xs.set k y).flatMap f
 | [],k,j,x,y,c,h,hj,hy=>by simp at h
 | a :: l,0,j,x,y,c,h,hj,hy=>by
  simp at h
  subst h
  rw [List.flatMap_cons,Nat.zero_mul,Nat.zero_add,List.set_append,if_pos (by rw [hf];exact hj),List.set_cons_zero,List.flatMap_cons,hy]
 | a :: l,k+1,j,x,y,c,h,hj,hy=>by
  rw [List.flatMap_cons,List.set_append,if_neg (by rw [hf,Nat.succ_mul];omega),hf,show (k+1) * s+j - s=k * s+j by rw [Nat.succ_mul];omega,flatS_set hf (by simpa using h) hj hy,List.set_cons_succ,List.flatMap_cons]
end Go.Proofs.YtignkfhdkcgkgaaGreat

namespace Go.Proofs.YtignkfhdkcgkgaaGreat
set_option maxRecDepth 100000
open Go.RowKit

abbrev trBlk (gT g gI gF gM:Nat):Pc := .blk gT #[.pointer (some ⟨g,0,none⟩),.map (some gI),.map (some gF),.map (some gM)] 118
abbrev numPc (b:Nat) (base:Int) (l:List Int):Pc := .own b fun w=>NumAt w b base l
abbrev lnBlk (gL:Nat) (In:Int) (S L O:Value):Pc := .blk gL #[.int .i64 In,S,L,O] 61
theorem lut_info:(Tryz.prog.info? 110).map (fun i=>(i.zero,i.size,i.bytes))=some (some (.agg #[.slice none 0 0,.int .i64 0]),2,32):=by kernel_rfl
/-- A number is entered into a numbered list among the pieces. -/
theorem Sepa.numPut {W w:World} {ps:List Pc} (S:Sepa W w ps) (i:Nat) {b:Nat} {base:Int} {l:List Int} (hi:ps[i]?=some (numPc b base l)) (hn:l.length<1000) (key y:Int) (hk:InI64 key) (hy:y=base+(l.length:Int)) (hb:InI64 y) (hne:key∉l) :
  ∃w',(Instr.mapUpdate 116 (.map (some b)) (.int .i64 key) (.int .i64 y)).run Tryz.prog w = .ok () w'∧Sepa W w' (ps.set i (numPc b base (l++[key])))∧w.heap.size≤w'.heap.size:=by
 subst hy
 obtain ⟨⟨D,h1,h2⟩,_,_⟩:=S.own i hi
 obtain ⟨w',r1,r2,r3⟩:=h1.store keyedI Tryz.underlying116 (by unfold maxLen;omega) (key64 hk) (plainElem_int Tryz.underlying3 (wf64 hb))
 refine ⟨w',r1,S.own_upd i hi r3.grown ⟨_,by rw [List.length_append];exact r2,fun z=>NumAt.put (World.ownsMap.isMap h1) h2 hne z⟩ (fun w1 w2 e h=>h.keep e),r3.grown.size⟩
theorem trAt_of {W w:World} {gT g gI gF gM:Nat} {d:Dev} {ts:List Tile} {TA:Option Addr} {m tc:Nat} {EA DA:Option Addr} {N:Nat} {pl:List Int} {rs:List Pc} (hE:EmuAt W g d ts TA m tc EA DA N)
  (S:Sepa W w (trBlk gT g gI gF gM :: numPc gI 1 (insL d ts) :: numPc gF (sqB d ts) (owL d ts) :: numPc gM (ltB d ts) pl :: rs)):TrAt w gT g gI gF gM d ts TA m tc EA DA N pl :=
 ⟨(S.blk 0 rfl).1,hE.below S.bel,(S.own 1 rfl).1,(S.own 2 rfl).1,(S.own 3 rfl).1⟩
/-- A logic element of a configured device. -/
theorem emu_le {w:World} {g:Nat} {d:Dev} {ts:List Tile} {TA:Option Addr} {m tc:Nat} {EA DA:Option Addr} {N:Nat} (hem:EmuAt w g d ts TA m tc EA DA N) (hc:CfgOk d ts) {t p:Nat} (ht:tileIn d (t:Int)=true) (hp:p≤1) :
  ∃b o bl ol q,TA=some ⟨b,o,none⟩∧b<w.heap.size∧bl<w.heap.size∧t<m∧w.cell? ⟨b,o+t * 4+1,none⟩=some (.slice (some ⟨bl,ol,none⟩) 2 q)∧w.cell? ⟨b,o+t * 4+2,none⟩=some (.int .i64 (tileAt ts (t:Int)).pad)∧w.cell? ⟨b,o+t * 4+3,none⟩=some (.int .i64 (tileAt ts (t:Int)).ram) ∧
   w.cell? ⟨bl,ol+p * 4+1,none⟩=some (.int .i64 (leAt ts (t:Int) (p:Int)).mask)∧w.cell? ⟨bl,ol+p * 4+2,none⟩=some (.int .i64 (leAt ts (t:Int) (p:Int)).flop)∧w.cell? ⟨bl,ol+p * 4+3,none⟩=some (.int .i64 (leAt ts (t:Int) (p:Int)).init):=by
 obtain ⟨_,hl2,htl,_⟩:=le_fit (e:=(p:Int)) hc ht (by omega)
 obtain ⟨b,o,S,m3,q,L,l,q4,rfl,hb,_,cl,cp,cr,-,rl⟩:=hem.tiles.tile htl
 change RdC w w.heap.size (celE (tileAt ts (t:Int)).les) (.slice L l q4) at rl
 have hll:=rl.elen
 obtain ⟨bl,ol,S4,m4,p4,rfl,hbl,_,d1,d2,d3,_⟩:=rl.le (k:=p) (by omega)
 have htt:=hem.tiles.tlen
 have hl:l=2:=by rw [←hll];exact hl2
 subst hl
 rw [Int.toNat_natCast] at cl cp cr htl
 exact ⟨b,o,bl,ol,q4,rfl,hb,hbl,by omega,cl,cp,cr,d1,d2,d3⟩
set_option maxHeartbeats 400000 in
theorem lutNodes_any (In:Int) (SA LA OA:Option Addr) (sn sc ln lc on oc:Nat) (w:World) (h0:0≤In) (h1:In≤1099511627776) (h2:sn≤1099511627776) (h3:ln≤1099511627776) :
  Calls Tryz.prog 146 #[.agg #[.int .i64 In,.slice SA sn sc,.slice LA ln lc,.slice OA on oc]] w fun e w'=>e = .returned (.int .i64 (1+In+(sn:Int)+(ln:Int)))∧Below w.heap.size w w':=by
 go_enter Tryz.func146,Tryz.ntmps146
 go_wp2
 go_ret
 exact ⟨rfl,below_new (Below.refl _ _) _⟩
end Go.Proofs.YtignkfhdkcgkgaaGreat
