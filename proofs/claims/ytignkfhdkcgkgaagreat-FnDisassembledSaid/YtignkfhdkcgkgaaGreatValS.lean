/- The values of all nodes: the program's sweeps. Look-up tables of the reference's emulator. -/
import Derived.Test.YtignkfhdkcgkgaaGreatDrvS
import Derived.Test.YtignkfhdkcgkgaaGreatVal
namespace Go.Proofs.YtignkfhdkcgkgaaGreat
set_option maxRecDepth 100000
open Go.RowKit Cw

theorem fill_next {N k:Nat} (hk:k<N):(List.replicate k (-1:Int)++List.replicate (N - k) 0).set k (-1)=List.replicate (k+1) (-1)++List.replicate (N - (k+1)) 0:=by
 rw [put_next (List.length_replicate) hk,←List.replicate_succ']
/-- How many numbers of a block are not negative. -/
def cntH (w:World) (g:Nat):Nat:=match w.heap[g]? with
 | some (.cells cs _ _)=>(cs.toList.filter fun v=>decide (0≤intOf v)).length
 | _=>0
theorem cntH_arr {w:World} {g:Nat} {vs:List Int} (h:w.heap[g]?=some (.cells (arr vs) 3 (0,0))):cntH w g=cntV vs:=by
 unfold cntH cntV
 rw [h]
 simp only [arr,List.filter_map,List.length_map]
 congr 1
def measV (c:Value) (w:World) (g N:Nat):Nat:=match c with
 | .bool true=>N+1 - cntH w g
 | _=>0
def RelV (d:Dev) (ts:List Tile) (st pads:List Int) (N:Nat) (c:Bool) (vs:List Int):Prop :=
 if c=true then ∃j,vs=itV d ts st pads N j∧j≤cntV vs else ∃j,j≤N∧vs=itV d ts st pads N j∧sweepTo d ts st pads vs N=vs
theorem relV_next {d:Dev} {ts:List Tile} {st pads vs:List Int} {N:Nat} (h:RelV d ts st pads N true vs) (cb:Bool) (hc:cb=decide (cntV vs<cntV (sweepTo d ts st pads vs N))) (hl:vs.length=N):RelV d ts st pads N cb (sweepTo d ts st pads vs N):=by
 unfold RelV at *
 rw [if_pos rfl] at h
 obtain ⟨j,hj,hcnt⟩:=h
 cases cb with
 | true =>
  rw [if_pos rfl]
  have:=of_decide_eq_true hc.symm
  refine ⟨j+1,?_,by omega⟩
  rw [itV,←hj]
 | false =>
  rw [if_neg (by simp)]
  have h1:=of_decide_eq_false hc.symm
  have h2:=sweepTo_cnt d ts st pads vs N
  have h3:=h2.2 (by omega)
  have h4:=cntV_le vs
  refine ⟨j,by omega,by rw [h3];exact hj,by rw [h3];exact h3⟩
theorem relV_done {d:Dev} {ts:List Tile} {st pads vs:List Int} {N:Nat} (h:RelV d ts st pads N false vs) (hN:N=(nodesOf d).toNat):vs=valsF d ts st pads:=by
 unfold RelV at h
 rw [if_neg (by simp)] at h
 obtain ⟨j,hj,hv,hs⟩:=h
 subst hN
 rw [valsF_of hj (by rw [←hv];exact hs)]
 exact hv
theorem stepV_same {d:Dev} {ts:List Tile} {st pads us:List Int} {n:Int} (h:¬(nodeOk d n=true∧nv us n<0∧0≤nodeV d ts st pads us n)):stepV d ts st pads us n=us:=by unfold stepV;rw [if_neg h]
theorem stepV_new {d:Dev} {ts:List Tile} {st pads us:List Int} {n:Int} (h:nodeOk d n=true∧nv us n<0∧0≤nodeV d ts st pads us n):stepV d ts st pads us n=us.set n.toNat (nodeV d ts st pads us n):=by unfold stepV;rw [if_pos h]
theorem nodeV_pin {d:Dev} {ts:List Tile} {st pads us:List Int} {n:Int} (h:n % perT d=5∨n % perT d=6):nodeV d ts st pads us n=pinF d ts st pads us (n / perT d) (n % perT d - 5):=by unfold nodeV;rw [if_pos h]
theorem nodeV_drv {d:Dev} {ts:List Tile} {st pads us:List Int} {n:Int} (h:¬(n % perT d=5∨n % perT d=6)) (h0:0≤drvOf d ts n):nodeV d ts st pads us n=nv us (drvOf d ts n):=by unfold nodeV;rw [if_neg h,if_pos h0]
theorem nodeV_none {d:Dev} {ts:List Tile} {st pads us:List Int} {n:Int} (h:¬(n % perT d=5∨n % perT d=6)) (h0:¬0≤drvOf d ts n):nodeV d ts st pads us n=0:=by unfold nodeV;rw [if_neg h,if_neg h0]
theorem exTo_get {d:Dev} {k N:Nat} (h:k<N):(exTo d N)[k]?.getD false=nodeOk d (k:Int):=by
 unfold exTo
 rw [List.getElem?_map,List.getElem?_range h]
 rfl

set_option maxHeartbeats 8000000 in
theorem values_any (g:Nat) (d:Dev) (ts:List Tile) (TA:Option Addr) (m tc:Nat) (EA DA:Option Addr) (N:Nat) (SA:Option Addr) (sn sc:Nat) (st:List Int) (PA:Option Addr) (pn pc:Nat) (pads:List Int) (w:World)
  (hem:EmuAt w g d ts TA m tc EA DA N) (hN:(N:Int)=nodesOf d) (hst:Ints w SA sn st) (hpa:Ints w PA pn pads) (hsn:(sn:Int)=2 * (d.W * d.H)) (hpn:(pn:Int)=d.W * d.H) (hsp:StPads d ts st pads) (hc:CfgOk d ts) :
  Calls Tryz.prog 201 #[.pointer (some ⟨g,0,none⟩),.slice SA sn sc,.slice PA pn pc] w fun e' w'=>∃A',e' = .returned (.slice A' N N)∧Own w.heap.size w' A' N N (valsF d ts st pads)∧Below w.heap.size w w':=by
 have hnb:=nodesOf_bd hc.dev
 have hWH:=dev_WH hc.dev
 have hgl:=heap_lt0 hem.box
 have x5:=cell_heap (k:=5) hem.box rfl
 have HNT:Hid (N=(nodesOf d).toNat):=by show _=_;omega
 have HNI:Hid (∀k:Nat,k<N→nodeIn d (k:Int)=true):=by
  intro k hk
  exact nodeIn_rnP.2 ⟨hc.dev,by omega,by omega⟩
 obtain ⟨be,oe,rfl,hbe,hce⟩:=hem.exist.2 (by omega)
 obtain ⟨bd,od,rfl,hbd,hcd⟩:=hem.drv.2 (by omega)
 have HX:=Lib.hid (And.intro (cell_heap (k:=0) hem.box rfl) (And.intro (cell_heap (k:=1) hem.box rfl) (And.intro (cell_heap (k:=2) hem.box rfl) (And.intro (cell_heap (k:=3) hem.box rfl) (And.intro (cell_heap (k:=5) hem.box rfl) (cell_heap (k:=6) hem.box rfl))))))
 have HCE:=Lib.hid hce
 have HCD:=Lib.hid hcd
 have HPIN:=Lib.hid (fun (VA:Option Addr) (vc:Nat) (vs:List Int) (t e:Int) (w':World) (hb:Below w.heap.size w w') (hv:Ints w' VA N vs) (h3:In3 vs) (ht:tileIn d t=true) (he:0≤e∧e≤1)=>pin_any g d ts TA m tc (some ⟨be,oe,none⟩) (some ⟨bd,od,none⟩) N VA vc vs SA sn sc st PA pn pc pads t e w' (hem.below hb) hv h3 hN (hst.below hb) (hpa.below hb) hsn hpn hsp hc ht he)
 have HDN:=Lib.hid (fun n h=>(drv_node (n:=n) hc h).1)
 have HIN:=Lib.hid (fun j=>itV_in hsp N j)
 have HSWI:=Lib.hid (fun vs hv k=>sweepTo_in (vs:=vs) hsp hv k)
 have HNV:=Lib.hid (fun vs (hv:In3 vs) n hn=>nodeV_in (n:=n) hsp hv hn)
 have HNE:=Lib.hid hN
 rw [←hN] at hnb
 obtain ⟨i0,hi,hz0,hz1,hz2⟩:=info_parts int_info
 have hmk:=fun W=>run_make_rowN (P:=Tryz.prog) 27 3 i0 _ Tryz.underlying27 hi hz0 .i64 .i64 N N (Nat.le_refl _) (by rw [hz2];omega) (by omega) W
 rw [hz1,Nat.mul_one,show (Value.int .i64 0).cells=#[Value.int .i64 0] from rfl,arr_made] at hmk
 clear hi hz0 hz1 hz2 hem hst hpa hsp hc hce hcd hN
 go_enter Tryz.func201,Tryz.ntmps201
 go_wp2_with fail
 clear hmk
 have H0:=Lib.hid (heap_new w (.cells (arr (List.replicate N 0)) 3))
 go_loopw [22] (fun i wr=>∃k:Nat,k≤N∧i = .int .i64 k∧wr.heap[w.heap.size]?=some (.cells (arr (List.replicate k (-1)++List.replicate (N - k) 0)) 3 (0,0))∧Below w.heap.size w wr) (fun i _=>N - (intOf i).toNat)
 case atStart=>exact ⟨0,by omega,rfl,H0.out,below_new (Below.refl _ _) _⟩
 case round =>
  obtain ⟨k,hk,rfl,ho,hb⟩:=hrel
  have HO:=Lib.hid ho
  have HB:=Lib.hid hb
  by_cases hlt:k<N
  ·have hdk:decide ((k:Int)<(N:Int))=true:=by simp;omega
   have zk:=cell_heap (k:=k) ho (arr_get (by simp;omega))
   have yk:=frozen_heap ho k
   have h1:=heap_set ho k (.int .i64 (-1))
   rw [arr_set,fill_next hlt] at h1
   have H1:=Lib.hid h1
   have q0:(0:Int)≤(k:Int):=by omega
   have q1:(k:Int)<(N:Int):=by omega
   clear ho hb h1
   go_wp2_with fail
   go_roundw
   case rel=>exact ⟨k+1,by omega,by go_num,H1.out,HB.out.setCell (p:=⟨w.heap.size,k,none⟩) (Nat.le_refl _) _⟩
   case measure=>simp [intOf];omega
  ·have hkN:k=N:=by omega
   have HKN:=Lib.hid hkN
   have hdk:decide ((k:Int)<(N:Int))=false:=by simp;omega
   have h2:wr.heap[w.heap.size]?=some (.cells (arr (itV d ts st pads N 0)) 3 (0,0)):=by
    rw [ho,hkN,Nat.sub_self,List.replicate_zero,List.append_nil];rfl
   have H2:=Lib.hid h2
   clear hkN ho hb h2
   go_wp2_with fail
   go_loopw [9] (fun c wr=>∃(cb:Bool) (vs:List Int),c = .bool cb∧wr.heap[w.heap.size]?=some (.cells (arr vs) 3 (0,0))∧vs.length=N∧In3 vs∧RelV d ts st pads N cb vs∧Below w.heap.size w wr) (fun c wr=>measV c wr w.heap.size N)
   case atStart=>exact ⟨true,_,rfl,H2.out,itV_length _ _ _ _ _ _,HIN.out 0,by unfold RelV;rw [if_pos rfl];exact ⟨0,rfl,Nat.zero_le _⟩,HB.out⟩
   case round =>
    obtain ⟨cb,vs,rfl,ho,hvl,hv3,hrv,hb⟩:=hrel
    have HO:=Lib.hid ho
    have HVL:=Lib.hid hvl
    have HV3:=Lib.hid hv3
    have HRV:=Lib.hid hrv
    have HB:=Lib.hid hb
    have HCN:=Lib.hid (cntH_arr ho)
    clear ho hvl hv3 hrv hb
    cases cb with
    | false =>
     go_wp2_with fail
     go_ret
     exact ⟨some ⟨w.heap.size,0,none⟩,rfl,by rw [←relV_done HRV.out HNT.out];exact Own.arr HO.out (Nat.le_refl _) (by unfold maxLen;omega) HVL.out,HB.out⟩
    | true =>
     obtain ⟨wo,rfl⟩:∃x,x=wr:=⟨wr,rfl⟩
     go_wp2_with fail
     go_loopw [9,32] (fun c i wr=>∃(k:Nat) (cb:Bool),k≤N∧i = .int .i64 k∧c = .bool cb∧cb=decide (cntV vs<cntV (sweepTo d ts st pads vs k))∧wr.heap[w.heap.size]?=some (.cells (arr (sweepTo d ts st pads vs k)) 3 (0,0))∧Below w.heap.size w wr) (fun _ i _=>N - (intOf i).toNat)
     case atStart=>exact ⟨0,false,by omega,rfl,rfl,by simp [sweepTo],HO.out,HB.out⟩
     case round =>
      obtain ⟨k,cb,hk,rfl,rfl,hcb,ho,hb⟩:=hrel
      have HCB:=Lib.hid hcb
      have HO:=Lib.hid ho
      have HB:=Lib.hid hb
      clear hcb ho hb
      by_cases hlt:k<N
      ·have hdk:decide ((k:Int)<(N:Int))=true:=by simp;omega
       have hni:=HNI.out k hlt
       have HNIK:=Lib.hid hni
       have HUL:Hid ((sweepTo d ts st pads vs k).length=N):=by show _=_;rw [sweepTo_length];exact HVL.out
       have HU3:=Lib.hid (HSWI.out vs HV3.out k)
       have HSWS:Hid (sweepTo d ts st pads vs (k+1)=stepV d ts st pads (sweepTo d ts st pads vs k) (k:Int)):=rfl
       have HCM:=Lib.hid (sweepTo_cnt d ts st pads vs k).1
       obtain ⟨_,n0,n1,hq0,hq1,hr0,hr1⟩:=node_tk hni
       have HTI:=Lib.hid (node_tile hni)
       generalize sweepTo d ts st pads vs k=us at *
       have ce:=HCE.out k hlt
       rw [exTo_get hlt] at ce
       have ho:=HO.out
       have zu:=cell_heap (k:=k) ho (arr_get (by rw [HUL.out];exact hlt))
       have HUD:Hid (us[k]?.getD 0=nv us (k:Int)):=by show _=_;unfold nv;rw [Int.toNat_natCast]
       rw [HUD.out] at zu
       obtain ⟨q0,q1,q2,q3,q5,q6⟩:=HX.out
       have hwr:=heap_lt0 ho
       have hgr:g<wr.heap.size:=by omega
       have hber:be<wr.heap.size:=by omega
       have hbdr:bd<wr.heap.size:=by omega
       obtain ⟨hcc,hff⟩:=bcell HB.out
       have j0:(0:Int)≤(k:Int):=by omega
       have j1:(k:Int)<(N:Int):=by omega
       generalize hNO:nodeOk d (k:Int)=bo at *
       have HNO:=Lib.hid hNO
       clear hNO hni ho
       cases bo with
       | false =>
        have HSM:=Lib.hid (stepV_same (d:=d) (ts:=ts) (st:=st) (pads:=pads) (us:=us) (n:=(k:Int)) (by rw [HNO.out];simp))
        clear zu q0 q1 q2 q3 q6
        go_wp2_with fail
        go_roundw
        case rel=>exact ⟨k+1,cb,by omega,by go_num,rfl,by rw [HSWS.out,HSM.out];exact HCB.out,by rw [HSWS.out,HSM.out];exact HO.out,HB.out⟩
        case measure=>simp [intOf];omega
       | true =>
        generalize hU:nv us (k:Int)=u at *
        have HU:=Lib.hid hU
        clear hU
        by_cases hu0:u≥0
        ·have hdu:decide (u≥0)=true:=by simpa using hu0
         have HSM:=Lib.hid (stepV_same (d:=d) (ts:=ts) (st:=st) (pads:=pads) (us:=us) (n:=(k:Int)) (by rw [HU.out];exact fun h=>by have:=h.2.1;omega))
         go_wp2_with fail
         go_roundw
         case rel=>exact ⟨k+1,cb,by omega,by go_num,rfl,by rw [HSWS.out,HSM.out];exact HCB.out,by rw [HSWS.out,HSM.out];exact HO.out,HB.out⟩
         case measure=>simp [intOf];omega
        ·have hdu:decide (u≥0)=false:=by simp;omega
         have HU0:Hid (nv us (k:Int)<0):=by show _<_;rw [HU.out];omega
         have HNP:=Lib.hid (fun w'=>nodePlace_any d (k:Int) w' HNIK.out)
         have HVB:=Lib.hid (HNV.out us HU3.out (k:Int) HNIK.out)
         go_wp2_with fail
         refine (HNP.out _).mono ?_
         rintro e' w5 ⟨rfl,b5⟩
         have HB5:=Lib.hid (HB.out.trans (b5.mono HB.out.size))
         have HO5:=Lib.hid (heap_tr b5 HO.out)
         have hs5:=b5.size
         clear b5 hcc hff zu ce
         obtain ⟨hcc,hff⟩:=bcell HB5.out
         have hgr5:g<w5.heap.size:=by omega
         have hbdr5:bd<w5.heap.size:=by omega
         generalize hpin:(k:Int) % perT d=pin at *
         generalize hq:(k:Int) / perT d=q at *
         have HPQ:=Lib.hid (And.intro hpin hq)
         clear hpin hq
         by_cases h5:pin=5∨pin=6
         ·have HVE0:=Lib.hid (nodeV_pin (d:=d) (ts:=ts) (st:=st) (pads:=pads) (us:=us) (n:=(k:Int)) (by rw [HPQ.out.1];exact h5))
          have HCALL:=Lib.hid (fun w' hb hv=>HPIN.out (some ⟨w.heap.size,0,none⟩) N us q (pin - 5) w' hb hv HU3.out HTI.out (by omega))
          rw [HPQ.out.1,HPQ.out.2] at HVE0
          have hvb:=HVB.out
          rw [HVE0.out] at hvb
          generalize hv:pinF d ts st pads us q (pin - 5)=v at *
          have HVE:=HVE0
          clear hv
          have hpp:(pin==5)=true∨((pin==5)=false∧(pin==6)=true):=by
           rcases h5 with h|h
           ·exact .inl (by simpa using h)
           ·exact .inr ⟨by simp;omega,by simpa using h⟩
          have e4:IntKind.i64.wrap (pin - 5)=pin - 5:=IntWalk.i64_in _ (by omega)
          clear h5
          rcases hpp with p5|⟨p5,p6⟩
          all_goals
           go_wp2_with fail
           refine (HCALL.out _ HB5.out (intsMade HO5.out HUL.out)).mono ?_
           rintro e' w6 ⟨rfl,b6⟩
           have HB6:=Lib.hid (HB5.out.trans (b6.mono HB5.out.size))
           have HO6:=Lib.hid (heap_tr b6 HO5.out)
           clear b6 hcc hff
           by_cases hv0:v≥0
           ·have hdv:decide (v≥0)=true:=by simpa using hv0
            have HNW:=Lib.hid (stepV_new (d:=d) (ts:=ts) (st:=st) (pads:=pads) (us:=us) (n:=(k:Int)) ⟨HNO.out,HU0.out,by rw [HVE.out];exact hv0⟩)
            have zk:=cell_heap (k:=k) HO6.out (arr_get (by rw [HUL.out];exact hlt))
            have yk:=frozen_heap HO6.out k
            have h1:=heap_set HO6.out k (.int .i64 v)
            rw [arr_set] at h1
            have H1:=Lib.hid h1
            have HCS:=Lib.hid (cntV_set (vs:=us) (k:=k) (by rw [HUL.out];exact hlt) HU0.out (x:=v) hv0)
            clear h1
            go_wp2_with fail
            go_roundw
            case rel=>exact ⟨k+1,true,by omega,by go_num,rfl,by rw [HSWS.out,HNW.out,HVE.out,Int.toNat_natCast,HCS.out];exact (decide_eq_true (by have:=HCM.out;omega)).symm,by rw [HSWS.out,HNW.out,HVE.out,Int.toNat_natCast];exact H1.out,HB6.out.setCell (p:=⟨w.heap.size,k,none⟩) (Nat.le_refl _) _⟩
            case measure=>simp [intOf];omega
           ·have hdv:decide (v≥0)=false:=by simp;omega
            have HSM:=Lib.hid (stepV_same (d:=d) (ts:=ts) (st:=st) (pads:=pads) (us:=us) (n:=(k:Int)) (by rw [HVE.out];exact fun h=>hv0 h.2.2))
            go_wp2_with fail
            go_roundw
            case rel=>exact ⟨k+1,cb,by omega,by go_num,rfl,by rw [HSWS.out,HSM.out];exact HCB.out,by rw [HSWS.out,HSM.out];exact HO6.out,HB6.out⟩
            case measure=>simp [intOf];omega
         ·have p5:(pin==5)=false:=by simp;omega
          have p6:(pin==6)=false:=by simp;omega
          have cd:=HCD.out k hlt
          rw [drvTo_get hlt] at cd
          have HND:=Lib.hid (fun h=>nodeV_drv (d:=d) (ts:=ts) (st:=st) (pads:=pads) (us:=us) (n:=(k:Int)) (by rw [HPQ.out.1];exact h5) h)
          have HNN:=Lib.hid (fun h=>nodeV_none (d:=d) (ts:=ts) (st:=st) (pads:=pads) (us:=us) (n:=(k:Int)) (by rw [HPQ.out.1];exact h5) h)
          have HDI:=Lib.hid (fun h=>HDN.out (k:Int) h)
          generalize drvOf d ts (k:Int)=s at *
          clear h5
          by_cases hs0:s≥0
          ·have hds:decide (s≥0)=true:=by simpa using hs0
           obtain ⟨-,-,hsn',-⟩:=node_tk (HDI.out hs0)
           have hsN:=(nodeIn_rnP.1 (HDI.out hs0)).2.2
           obtain ⟨sn',rfl⟩:=Int.eq_ofNat_of_zero_le hs0
           have hsNN:sn'<N:=by have:=HNE.out;omega
           have HVE:=Lib.hid (HND.out hs0)
           have zs:=cell_heap (k:=sn') HO5.out (arr_get (by rw [HUL.out];exact hsNN))
           have HUD2:Hid (us[sn']?.getD 0=nv us (sn':Int)):=by show _=_;unfold nv;rw [Int.toNat_natCast]
           rw [HUD2.out] at zs
           have m0:(0:Int)≤(sn':Int):=by omega
           have m1:(sn':Int)<(N:Int):=by omega
           have hwr5:=heap_lt0 HO5.out
           have hvb:=HVB.out
           rw [HVE.out] at hvb
           generalize nv us (sn':Int)=v at *
           clear hsN hsn'
           by_cases hv0:v≥0
           ·have hdv:decide (v≥0)=true:=by simpa using hv0
            have HNW:=Lib.hid (stepV_new (d:=d) (ts:=ts) (st:=st) (pads:=pads) (us:=us) (n:=(k:Int)) ⟨HNO.out,HU0.out,by rw [HVE.out];exact hv0⟩)
            have zk:=cell_heap (k:=k) HO5.out (arr_get (by rw [HUL.out];exact hlt))
            have yk:=frozen_heap HO5.out k
            have h1:=heap_set HO5.out k (.int .i64 v)
            rw [arr_set] at h1
            have H1:=Lib.hid h1
            have HCS:=Lib.hid (cntV_set (vs:=us) (k:=k) (by rw [HUL.out];exact hlt) HU0.out (x:=v) hv0)
            clear h1
            go_wp2_with fail
            go_roundw
            case rel=>exact ⟨k+1,true,by omega,by go_num,rfl,by rw [HSWS.out,HNW.out,HVE.out,Int.toNat_natCast,HCS.out];exact (decide_eq_true (by have:=HCM.out;omega)).symm,by rw [HSWS.out,HNW.out,HVE.out,Int.toNat_natCast];exact H1.out,HB5.out.setCell (p:=⟨w.heap.size,k,none⟩) (Nat.le_refl _) _⟩
            case measure=>simp [intOf];omega
           ·have hdv:decide (v≥0)=false:=by simp;omega
            have HSM:=Lib.hid (stepV_same (d:=d) (ts:=ts) (st:=st) (pads:=pads) (us:=us) (n:=(k:Int)) (by rw [HVE.out];exact fun h=>hv0 h.2.2))
            go_wp2_with fail
            go_roundw
            case rel=>exact ⟨k+1,cb,by omega,by go_num,rfl,by rw [HSWS.out,HSM.out];exact HCB.out,by rw [HSWS.out,HSM.out];exact HO5.out,HB5.out⟩
            case measure=>simp [intOf];omega
          ·have hds:decide (s≥0)=false:=by simp;omega
           have HVE:=Lib.hid (HNN.out (by omega))
           have HNW:=Lib.hid (stepV_new (d:=d) (ts:=ts) (st:=st) (pads:=pads) (us:=us) (n:=(k:Int)) ⟨HNO.out,HU0.out,by rw [HVE.out];exact Int.le_refl _⟩)
           have zk:=cell_heap (k:=k) HO5.out (arr_get (by rw [HUL.out];exact hlt))
           have yk:=frozen_heap HO5.out k
           have h1:=heap_set HO5.out k (.int .i64 0)
           rw [arr_set] at h1
           have H1:=Lib.hid h1
           have HCS:=Lib.hid (cntV_set (vs:=us) (k:=k) (by rw [HUL.out];exact hlt) HU0.out (x:=0) (Int.le_refl _))
           have hwr5:=heap_lt0 HO5.out
           clear h1
           go_wp2_with fail
           go_roundw
           case rel=>exact ⟨k+1,true,by omega,by go_num,rfl,by rw [HSWS.out,HNW.out,HVE.out,Int.toNat_natCast,HCS.out];exact (decide_eq_true (by have:=HCM.out;omega)).symm,by rw [HSWS.out,HNW.out,HVE.out,Int.toNat_natCast];exact H1.out,HB5.out.setCell (p:=⟨w.heap.size,k,none⟩) (Nat.le_refl _) _⟩
           case measure=>simp [intOf];omega
      ·have hkN:k=N:=by omega
       have HKN:=Lib.hid hkN
       have hdk:decide ((k:Int)<(N:Int))=false:=by simp;omega
       have hsl:=sweepTo_length d ts st pads vs k
       clear hkN
       have HNX:=Lib.hid (relV_next HRV.out cb (by rw [←HKN.out];exact HCB.out) HVL.out)
       have HLE:=Lib.hid (cntV_le (sweepTo d ts st pads vs k))
       have HSL:=Lib.hid hsl
       have HC2:=Lib.hid (cntH_arr HO.out)
       clear hsl
       go_wp2_with fail
       go_roundw
       case rel=>exact ⟨cb,_,rfl,HO.out,by rw [HSL.out];exact HVL.out,HSWI.out _ HV3.out k,by have h:=HNX.out;rw [←HKN.out] at h ⊢;exact h,HB.out⟩
       case measure =>
        have h1:=HC2.out
        have h2:=HCN.out
        have h3:=HLE.out
        rw [HSL.out,HVL.out] at h3
        have h4:=HCB.out
        have h5:=cntV_le vs
        rw [HVL.out] at h5
        cases cb with
        | true =>
         show N+1 - cntH wr _<N+1 - cntH wo _
         rw [h1,h2]
         have:=of_decide_eq_true h4.symm
         omega
        | false =>
         show 0<N+1 - cntH wo _
         rw [h2]
         omega
end Go.Proofs.YtignkfhdkcgkgaaGreat

namespace Go.Proofs.YtignkfhdkcgkgaaGreat
set_option maxRecDepth 100000
open Go.RowKit Cw

end Go.Proofs.YtignkfhdkcgkgaaGreat
