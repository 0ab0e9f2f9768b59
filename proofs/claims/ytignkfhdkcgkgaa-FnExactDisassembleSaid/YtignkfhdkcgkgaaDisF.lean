/- The reference's trace: what is behind a node of a configured device. What the reference keeps for each node while it reads a device back. Plain lemmas. -/
import Derived.Test.YtignkfhdkcgkgaaDisPure
import Derived.Test.YtignkfhdkcgkgaaNm
namespace Go.Proofs.Ytignkfhdkcgkgaa
set_option maxRecDepth 100000
open Go.RowKit

/-- A list of numbers that says what is behind each output pin. -/
def NodesOf (d:Dev) (ts:List Tile) (pl:List Int) (xs:List Int):Prop:=∀n:Nat,nodeIn d (n:Int)=true→((n:Int) % perT d=5∨(n:Int) % perT d=6)→(n:Int) % perT d - 5<outPins (kindOf d ((n:Int) / perT d))→xs[n]?.getD 0=ndP d ts pl ((n:Int) / perT d) ((n:Int) % perT d - 5)
def PinOk (d:Dev) (n:Int):Prop:=(n % perT d=5∨n % perT d=6)→n % perT d - 5<outPins (kindOf d (n / perT d))
theorem trS_pin {d:Dev} {ts:List Tile} {pl:List Int} {n:Int} (f:Nat) (h:n % perT d=5∨n % perT d=6):trF d ts pl (f+1) n=ndP d ts pl (n / perT d) (n % perT d - 5):=by rw [trF,if_pos h]
theorem trS_none {d:Dev} {ts:List Tile} {pl:List Int} {n:Int} (f:Nat) (h:¬(n % perT d=5∨n % perT d=6)) (h0:drvOf d ts n<0):trF d ts pl (f+1) n=0:=by rw [trF,if_neg h,if_pos h0]
theorem trS_step {d:Dev} {ts:List Tile} {pl:List Int} {n:Int} (f:Nat) (h:¬(n % perT d=5∨n % perT d=6)) (h0:¬drvOf d ts n<0):trF d ts pl (f+1) n=trF d ts pl f (drvOf d ts n):=by rw [trF,if_neg h,if_neg h0]
set_option maxHeartbeats 2000000 in
theorem l42Trace_any (d:Dev) (ts:List Tile) (pl:List Int) (N:Nat) (DA:Option Addr) (dc:Nat) (NA:Option Addr) (nc:Nat) (xs:List Int) (n0:Int) (w:World)
  (hD:Ints w DA N (drvTo d ts N)) (hX:Ints w NA N xs) (hN:(N:Int)=nodesOf d) (hc:CfgOk d ts) (hx:NodesOf d ts pl xs) (hn:nodeIn d n0=true) (hp:PinOk d n0) :
  Calls Try.prog 24 #[.slice DA N dc,.int .i64 (perT d),.slice NA N nc,.int .i64 n0] w fun e w'=>e = .returned (.int .i64 (tr d ts pl n0))∧w=w':=by
 have hnb:=nodesOf_bd hc.dev
 have hpb:=perT_bd hc.dev
 obtain ⟨bd,od,rfl,hbd,hcd⟩:=hD.2 (by omega)
 obtain ⟨bx,ox,rfl,hbx,hcx⟩:=hX.2 (by omega)
 have HCD:=Lib.hid hcd
 have HCX:=Lib.hid hcx
 have HNE:=Lib.hid hN
 have HC:=Lib.hid hc
 have HXS:=Lib.hid hx
 have HTR:Hid (tr d ts pl n0=trF d ts pl (N+1) n0):=by show _=_;unfold tr;rw [show (nodesOf d).toNat=N by omega]
 have HNI:=Lib.hid hn
 have HPI:=Lib.hid hp
 rw [←hN] at hnb
 clear hD hX hc hx hn hp hcd hcx hN
 generalize hX:tr d ts pl n0=X at *
 clear hX
 go_enter Try.func24,Try.ntmps24
 go_wp2_with fail
 go_loop [3,9] (fun nd s=>∃(k:Nat) (n:Int),k≤N+1∧s = .int .i64 k∧nd = .int .i64 n∧nodeIn d n=true∧PinOk d n∧X=trF d ts pl (N+1 - k) n) (fun _ s=>N+1 - (intOf s).toNat)
 case atStart=>exact ⟨0,n0,by omega,rfl,rfl,HNI.out,HPI.out,HTR.out⟩
 case round =>
  obtain ⟨k,n,hk,rfl,rfl,hn,hp,hX⟩:=hrel
  have HNN:=Lib.hid hn
  have HPP:=Lib.hid hp
  have HXX:=Lib.hid hX
  clear hn hp hX
  by_cases hlt:k≤N
  ·have hdk:decide ((k:Int)≤(N:Int))=true:=by simp;omega
   obtain ⟨_,n0',n1,hq0,hq1,hr0,hr1⟩:=node_tk HNN.out
   have hnn:=(nodeIn_rnP.1 HNN.out).2.2
   rw [←HNE.out] at hnn
   have HF:Hid (N+1 - k=N - k+1):=by show _=_;omega
   obtain ⟨nn,rfl⟩:=Int.eq_ofNat_of_zero_le n0'
   have hck:=HCD.out nn (by omega)
   rw [drvTo_get (by omega)] at hck
   have hcn:=HCX.out nn (by omega)
   have i0:(0:Int)≤(nn:Int):=by omega
   have i1:(nn:Int)<(N:Int):=by omega
   have hmod:(nn:Int).tmod (perT d)=(nn:Int) % perT d:=Int.tmod_eq_emod_of_nonneg (by omega)
   have hnz:¬perT d=0:=by omega
   by_cases h5:(nn:Int) % perT d=5∨(nn:Int) % perT d=6
   ·have HX2:Hid (xs[nn]?.getD 0=X):=by show _=_;rw [HXX.out,HF.out,trS_pin _ h5,HXS.out nn HNN.out h5 (HPP.out h5)]
    rw [HX2.out] at hcn
    have hp5:((nn:Int) % perT d==5)=true∨((nn:Int) % perT d==5)=false∧((nn:Int) % perT d==6)=true:=by
     rcases h5 with h|h
     ·exact .inl (by simpa using h)
     ·exact .inr ⟨by simp;omega,by simpa using h⟩
    clear h5
    generalize (nn:Int) % perT d=q at *
    rcases hp5 with hp5|⟨hp5,hp6⟩
    all_goals
     go_wp2_with fail
     go_ret
     exact ⟨rfl,rfl⟩
   ·have hp5:((nn:Int) % perT d==5)=false:=by simp;omega
    have hp6:((nn:Int) % perT d==6)=false:=by simp;omega
    have HDN:=Lib.hid (fun h=>(drv_node (n:=(nn:Int)) HC.out h).1)
    have HDO:=Lib.hid (fun h=>(fun h5=>(out_ok (drv_ok (n:=(nn:Int)) HC.out h) h5).2:PinOk d (drvOf d ts (nn:Int))))
    have HX0:=Lib.hid (fun h0=>(HXX.out.trans (by rw [HF.out])).trans (trS_none (d:=d) (ts:=ts) (pl:=pl) (n:=(nn:Int)) (N - k) h5 h0))
    have HX1:=Lib.hid (fun h0=>(HXX.out.trans (by rw [HF.out])).trans (trS_step (d:=d) (ts:=ts) (pl:=pl) (n:=(nn:Int)) (N - k) h5 h0))
    generalize drvOf d ts (nn:Int)=s at *
    generalize (nn:Int) % perT d=q at *
    clear h5
    by_cases hs0:s<0
    ·have hds:decide (s<0)=true:=by simpa using hs0
     have HX2:=Lib.hid (HX0.out hs0)
     go_wp2_with fail
     go_ret
     exact ⟨ret_int HX2.out.symm,rfl⟩
    ·have hds:decide (s<0)=false:=by simpa using hs0
     have HX2:=Lib.hid (HX1.out hs0)
     have HN2:=Lib.hid (HDN.out (by omega))
     have HP2:=Lib.hid (HDO.out (by omega))
     clear hs0
     go_wp2_with fail
     go_round
     case rel=>exact ⟨k+1,s,by omega,by go_num,rfl,HN2.out,HP2.out,by rw [HX2.out];congr 1;omega⟩
     case measure=>simp [intOf];omega
  ·have hdk:decide ((k:Int)≤(N:Int))=false:=by simp;omega
   have HX2:Hid (X=-2):=by show _=_;rw [HXX.out,show N+1 - k=0 by omega];rfl
   go_wp2_with fail
   go_ret
   exact ⟨ret_int HX2.out.symm,rfl⟩
end Go.Proofs.Ytignkfhdkcgkgaa

namespace Go.Proofs.Ytignkfhdkcgkgaa
set_option maxRecDepth 100000
open Go.RowKit

theorem mapR_set {N i:Nat} {f g:Nat→Int} {v:Int} (hi:i<N) (hv:g i=v) (h:∀n,n<N→n≠i→g n=f n):((List.range N).map f).set i v=(List.range N).map g:=by
 apply List.ext_getElem?
 intro j
 by_cases hj:j=i
 ·subst hj
  rw [List.getElem?_set_self (by simpa using hi),List.getElem?_map,List.getElem?_range hi,Option.map_some,hv]
 ·rw [List.getElem?_set_ne (by omega),List.getElem?_map,List.getElem?_map]
  rcases Nat.lt_or_ge j N with h1|h1
  ·rw [List.getElem?_range h1,Option.map_some,Option.map_some,h j h1 hj]
  ·rw [List.getElem?_eq_none (by simpa using h1)]
   rfl
theorem mapR_same {N:Nat} {f g:Nat→Int} (h:∀n,n<N→g n=f n):(List.range N).map f=(List.range N).map g:=by
 apply List.map_congr_left
 intro n hn
 exact (h n (List.mem_range.1 hn)).symm
/-- The node of pin p of tile t, apart from all other nodes. -/
theorem node_apart {P t p:Int} {n:Nat} (hn:(n:Int) / P=t) (hm:(n:Int) % P=p):(n:Int)=t * P+p:=by
 have:=Int.mul_ediv_add_emod (n:Int) P
 rw [hn,hm,Int.mul_comm] at this
 omega
/-! ### inputs -/
def F1 (d:Dev) (ts:List Tile) (k:Nat) (n:Nat):Int:=if (n:Int) % perT d=5∧(n:Int) / perT d<(k:Int)∧padQ d ts 1 ((n:Int) / perT d).toNat=true then numF 1 (padTo d ts 1 k) ((n:Int) / perT d) else 0
theorem F1_zero (d:Dev) (ts:List Tile) (N:Nat) (hd:devOk d=true):(List.range N).map (F1 d ts 0)=List.replicate N 0:=by
 apply List.ext_getElem?
 intro i
 rw [List.getElem?_map]
 rcases Nat.lt_or_ge i N with h|h
 ·rw [List.getElem?_range h,Option.map_some,List.getElem?_replicate,if_pos h,F1,if_neg]
  rintro ⟨_,h1,_⟩
  have h2:=Int.ediv_nonneg (a:=(i:Int)) (b:=perT d) (by omega) (by have:=perT_bd hd;omega)
  omega
 ·rw [List.getElem?_eq_none (by simpa using h),List.getElem?_replicate,if_neg (by omega)]
  rfl
theorem F1_no {d:Dev} {ts:List Tile} {k:Nat} (h:padQ d ts 1 k=false) (n:Nat):F1 d ts (k+1) n=F1 d ts k n:=by
 have e:padTo d ts 1 (k+1)=padTo d ts 1 k:=by rw [padTo,h];simp
 unfold F1
 rw [e]
 by_cases hk:(n:Int) / perT d=(k:Int)
 ·rw [hk,Int.toNat_natCast,h,if_neg (by simp),if_neg (by simp)]
 ·congr 1
  apply propext
  constructor
  ·rintro ⟨a,b,c⟩;exact ⟨a,by omega,c⟩
  ·rintro ⟨a,b,c⟩;exact ⟨a,by omega,c⟩
theorem F1_yes {d:Dev} {ts:List Tile} {k N:Nat} (hd:devOk d=true) (h:padQ d ts 1 k=true) {i:Nat} (hi:(i:Int)=(k:Int) * perT d+5) (hN:i<N) :
  ((List.range N).map (F1 d ts k)).set i (1+((padTo d ts 1 k).length:Int))=(List.range N).map (F1 d ts (k+1)):=by
 have hp:=perT_bd hd
 have e:padTo d ts 1 (k+1)=padTo d ts 1 k++[(k:Int)]:=by rw [padTo,h];rfl
 have hm:=divmod_of (a:=(i:Int)) (b:=perT d) (q:=(k:Int)) (r:=5) hi (by omega) (by omega)
 refine mapR_set hN ?_ fun n _ hne=>?_
 ·unfold F1
  rw [hm.1,hm.2,Int.toNat_natCast,if_pos ⟨rfl,by omega,h⟩,e,numF_snoc (padTo_new d ts 1 k),if_pos rfl]
 ·unfold F1
  by_cases h5:(n:Int) % perT d=5
  ·by_cases hk:(n:Int) / perT d=(k:Int)
   ·have:=node_apart hk h5
    omega
   ·rw [e,numF_snoc (padTo_new d ts 1 k),if_neg hk]
    congr 1
    apply propext
    constructor
    ·rintro ⟨a,b,c⟩;exact ⟨a,by omega,c⟩
    ·rintro ⟨a,b,c⟩;exact ⟨a,by omega,c⟩
  ·rw [if_neg (by rintro ⟨a,_⟩;exact h5 a),if_neg (by rintro ⟨a,_⟩;exact h5 a)]
/-! ### flip-flops and memories -/
/-- All pins whose number is below c are entered; L: the owners so far. -/
def F2 (d:Dev) (ts:List Tile) (L:List Int) (c:Int) (n:Nat):Int :=
 if ((n:Int) % perT d=5∨(n:Int) % perT d=6)∧kindOf d ((n:Int) / perT d)=1∧2 * ((n:Int) / perT d)+((n:Int) % perT d - 5)<c then
  (if (leX ts (2 * ((n:Int) / perT d)+((n:Int) % perT d - 5))).flop=1 then numF (sqB d ts) L (2 * ((n:Int) / perT d)+((n:Int) % perT d - 5)) else -1)
 else if (n:Int) % perT d=5∧kindOf d ((n:Int) / perT d)=2∧2 * ((n:Int) / perT d)<c then numF (sqB d ts) L (2 * ((n:Int) / perT d))
 else F1 d ts ts.length n
theorem F2_a {d:Dev} {ts:List Tile} {L:List Int} {c:Int} {n:Nat} (h:(((n:Int) % perT d=5∨(n:Int) % perT d=6)∧kindOf d ((n:Int) / perT d)=1∧2 * ((n:Int) / perT d)+((n:Int) % perT d - 5)<c)):F2 d ts L c n=if (leX ts (2 * ((n:Int) / perT d)+((n:Int) % perT d - 5))).flop=1 then numF (sqB d ts) L (2 * ((n:Int) / perT d)+((n:Int) % perT d - 5)) else -1:=by unfold F2;rw [if_pos h]
theorem F2_b {d:Dev} {ts:List Tile} {L:List Int} {c:Int} {n:Nat} (h:¬(((n:Int) % perT d=5∨(n:Int) % perT d=6)∧kindOf d ((n:Int) / perT d)=1∧2 * ((n:Int) / perT d)+((n:Int) % perT d - 5)<c)) (h2:((n:Int) % perT d=5∧kindOf d ((n:Int) / perT d)=2∧2 * ((n:Int) / perT d)<c)):F2 d ts L c n=numF (sqB d ts) L (2 * ((n:Int) / perT d)):=by unfold F2;rw [if_neg h,if_pos h2]
theorem F2_c {d:Dev} {ts:List Tile} {L:List Int} {c:Int} {n:Nat} (h:¬(((n:Int) % perT d=5∨(n:Int) % perT d=6)∧kindOf d ((n:Int) / perT d)=1∧2 * ((n:Int) / perT d)+((n:Int) % perT d - 5)<c)) (h2:¬((n:Int) % perT d=5∧kindOf d ((n:Int) / perT d)=2∧2 * ((n:Int) / perT d)<c)):F2 d ts L c n=F1 d ts ts.length n:=by unfold F2;rw [if_neg h,if_neg h2]
theorem F2_zero (d:Dev) (ts:List Tile) (N:Nat) (hd:devOk d=true):(List.range N).map (F1 d ts ts.length)=(List.range N).map (F2 d ts [] 0):=mapR_same fun n _=>by
 have h2:=Int.ediv_nonneg (a:=(n:Int)) (b:=perT d) (by omega) (by have:=perT_bd hd;omega)
 unfold F2
 rw [if_neg (by omega),if_neg (by omega)]
theorem F2_le_eq {d:Dev} {ts:List Tile} {L L':List Int} {k e:Int} (hd:devOk d=true) (hk:kindOf d k=1) (he:e=0∨e=1) {n:Nat} (hne:(n:Int)≠k * perT d+(5+e)) (hL:∀y,y≠2 * k+e→numF (sqB d ts) L' y=numF (sqB d ts) L y):F2 d ts L' (2 * k+e+1) n=F2 d ts L (2 * k+e) n:=by
 have hp:=perT_bd hd
 by_cases h5:(n:Int) % perT d=5∨(n:Int) % perT d=6
 ·by_cases h1:kindOf d ((n:Int) / perT d)=1
  ·have hq:2 * ((n:Int) / perT d)+((n:Int) % perT d - 5)≠2 * k+e:=fun h=>hne (node_apart (by omega) (by omega))
   by_cases hc:2 * ((n:Int) / perT d)+((n:Int) % perT d - 5)<2 * k+e
   ·rw [F2_a ⟨h5,h1,by omega⟩,F2_a ⟨h5,h1,hc⟩,hL _ hq]
   ·rw [F2_c (by rintro ⟨_,_,h⟩;omega) (by rintro ⟨_,h,_⟩;rw [h1] at h;omega),F2_c (by rintro ⟨_,_,h⟩;exact hc h) (by rintro ⟨_,h,_⟩;rw [h1] at h;omega)]
  ·have hA:∀c:Int,¬(((n:Int) % perT d=5∨(n:Int) % perT d=6)∧kindOf d ((n:Int) / perT d)=1∧2 * ((n:Int) / perT d)+((n:Int) % perT d - 5)<c):=fun c h=>h1 h.2.1
   by_cases h2:(n:Int) % perT d=5∧kindOf d ((n:Int) / perT d)=2
   ·have hq:(n:Int) / perT d≠k:=fun h=>by rw [h] at h1;exact h1 hk
    by_cases hc:2 * ((n:Int) / perT d)<2 * k+e
    ·rw [F2_b (hA _) ⟨h2.1,h2.2,by omega⟩,F2_b (hA _) ⟨h2.1,h2.2,hc⟩,hL _ (by omega)]
    ·rw [F2_c (hA _) (by rintro ⟨_,_,h⟩;omega),F2_c (hA _) (by rintro ⟨_,_,h⟩;exact hc h)]
   ·rw [F2_c (hA _) (by rintro ⟨a,b,_⟩;exact h2 ⟨a,b⟩),F2_c (hA _) (by rintro ⟨a,b,_⟩;exact h2 ⟨a,b⟩)]
 ·rw [F2_c (by rintro ⟨h,_⟩;exact h5 h) (by rintro ⟨h,_⟩;exact h5 (.inl h)),F2_c (by rintro ⟨h,_⟩;exact h5 h) (by rintro ⟨h,_⟩;exact h5 (.inl h))]
theorem F2_two_eq {d:Dev} {ts:List Tile} {L L':List Int} {k:Int} (hd:devOk d=true) (hk:kindOf d k≠1) {n:Nat} (hne:kindOf d k=2→(n:Int)≠k * perT d+5) (hL:∀y,y≠2 * k→numF (sqB d ts) L' y=numF (sqB d ts) L y):F2 d ts L' (2 * k+2) n=F2 d ts L (2 * k) n:=by
 have hp:=perT_bd hd
 by_cases h5:(n:Int) % perT d=5∨(n:Int) % perT d=6
 ·by_cases h1:kindOf d ((n:Int) / perT d)=1
  ·have hq:(n:Int) / perT d≠k:=fun h=>by rw [h] at h1;exact hk h1
   by_cases hc:2 * ((n:Int) / perT d)+((n:Int) % perT d - 5)<2 * k
   ·rw [F2_a ⟨h5,h1,by omega⟩,F2_a ⟨h5,h1,hc⟩,hL _ (by omega)]
   ·rw [F2_c (by rintro ⟨_,_,h⟩;omega) (by rintro ⟨_,h,_⟩;rw [h1] at h;omega),F2_c (by rintro ⟨_,_,h⟩;exact hc h) (by rintro ⟨_,h,_⟩;rw [h1] at h;omega)]
  ·have hA:∀c:Int,¬(((n:Int) % perT d=5∨(n:Int) % perT d=6)∧kindOf d ((n:Int) / perT d)=1∧2 * ((n:Int) / perT d)+((n:Int) % perT d - 5)<c):=fun c h=>h1 h.2.1
   by_cases h2:(n:Int) % perT d=5∧kindOf d ((n:Int) / perT d)=2
   ·have hq:(n:Int) / perT d≠k:=fun h=>by
     have h3:=h2.2
     rw [h] at h3
     have:=node_apart h h2.1
     exact hne h3 this
    by_cases hc:2 * ((n:Int) / perT d)<2 * k
    ·rw [F2_b (hA _) ⟨h2.1,h2.2,by omega⟩,F2_b (hA _) ⟨h2.1,h2.2,hc⟩,hL _ (by omega)]
    ·rw [F2_c (hA _) (by rintro ⟨_,_,h⟩;omega),F2_c (hA _) (by rintro ⟨_,_,h⟩;exact hc h)]
   ·rw [F2_c (hA _) (by rintro ⟨a,b,_⟩;exact h2 ⟨a,b⟩),F2_c (hA _) (by rintro ⟨a,b,_⟩;exact h2 ⟨a,b⟩)]
 ·rw [F2_c (by rintro ⟨h,_⟩;exact h5 h) (by rintro ⟨h,_⟩;exact h5 (.inl h)),F2_c (by rintro ⟨h,_⟩;exact h5 h) (by rintro ⟨h,_⟩;exact h5 (.inl h))]
theorem F2_le_yes {d:Dev} {ts:List Tile} {L:List Int} {k e:Int} {N i:Nat} (hd:devOk d=true) (hk:kindOf d k=1) (he:e=0∨e=1) (hf:(leX ts (2 * k+e)).flop=1) (hx:2 * k+e∉L) (hi:(i:Int)=k * perT d+(5+e)) (hN:i<N) :
  ((List.range N).map (F2 d ts L (2 * k+e))).set i (sqB d ts+(L.length:Int))=(List.range N).map (F2 d ts (L++[2 * k+e]) (2 * k+e+1)):=by
 have hp:=perT_bd hd
 have hm:=divmod_of (a:=(i:Int)) (b:=perT d) (q:=k) (r:=5+e) hi (by omega) (by omega)
 refine mapR_set hN ?_ fun n _ hne=>F2_le_eq hd hk he (by omega) fun y hy=>by rw [numF_snoc hx,if_neg hy]
 unfold F2
 rw [hm.1,hm.2,show 5+e - 5=e by omega,if_pos ⟨by omega,hk,by omega⟩,if_pos hf,numF_snoc hx,if_pos rfl]
theorem F2_le_no {d:Dev} {ts:List Tile} {L:List Int} {k e:Int} {N i:Nat} (hd:devOk d=true) (hk:kindOf d k=1) (he:e=0∨e=1) (hf:¬(leX ts (2 * k+e)).flop=1) (hi:(i:Int)=k * perT d+(5+e)) (hN:i<N) :
  ((List.range N).map (F2 d ts L (2 * k+e))).set i (-1)=(List.range N).map (F2 d ts L (2 * k+e+1)):=by
 have hp:=perT_bd hd
 have hm:=divmod_of (a:=(i:Int)) (b:=perT d) (q:=k) (r:=5+e) hi (by omega) (by omega)
 refine mapR_set hN ?_ fun n _ hne=>F2_le_eq hd hk he (by omega) fun y _=>rfl
 unfold F2
 rw [hm.1,hm.2,show 5+e - 5=e by omega,if_pos ⟨by omega,hk,by omega⟩,if_neg hf]
theorem F2_ram {d:Dev} {ts:List Tile} {L:List Int} {k:Int} {N i:Nat} (hd:devOk d=true) (hk:kindOf d k=2) (hx:2 * k∉L) (hi:(i:Int)=k * perT d+5) (hN:i<N) :
  ((List.range N).map (F2 d ts L (2 * k))).set i (sqB d ts+(L.length:Int))=(List.range N).map (F2 d ts (L++[2 * k]) (2 * k+2)):=by
 have hp:=perT_bd hd
 have hm:=divmod_of (a:=(i:Int)) (b:=perT d) (q:=k) (r:=5) hi (by omega) (by omega)
 refine mapR_set hN ?_ fun n _ hne=>F2_two_eq hd (by omega) (fun _=>by omega) fun y hy=>by rw [numF_snoc hx,if_neg hy]
 unfold F2
 rw [hm.1,hm.2,if_neg (by rintro ⟨_,h,_⟩;rw [hk] at h;omega),if_pos ⟨rfl,hk,by omega⟩,numF_snoc hx,if_pos rfl]
theorem F2_io {d:Dev} {ts:List Tile} {L:List Int} {k:Int} {N:Nat} (hd:devOk d=true) (hk:kindOf d k=0):(List.range N).map (F2 d ts L (2 * k))=(List.range N).map (F2 d ts L (2 * k+2)) :=
 mapR_same fun n _=>F2_two_eq hd (by omega) (fun h=>by omega) fun y _=>rfl
/-! ### look-up tables -/
def F3 (d:Dev) (ts:List Tile) (pl:List Int) (n:Nat):Int :=
 if ((n:Int) % perT d=5∨(n:Int) % perT d=6)∧kindOf d ((n:Int) / perT d)=1∨(n:Int) % perT d=5 then ndP d ts pl ((n:Int) / perT d) ((n:Int) % perT d - 5) else 0
end Go.Proofs.Ytignkfhdkcgkgaa
