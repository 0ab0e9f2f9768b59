/- The values of all nodes: the program's sweeps. -/
import Derived.Test.YtignkfhdkcgkgaaGreatVal
namespace Go.Proofs.YtignkfhdkcgkgaaGreat
set_option maxHeartbeats 8000000
set_option maxRecDepth 100000
open Go.RowKit Cw
theorem Ey {N k:Nat} (hk:k<N):(List.replicate k (-1:Int)++List.replicate (N - k) 0).set k (-1)=List.replicate (k+1) (-1)++List.replicate (N - (k+1)) 0:=by
 rw [sH (List.length_replicate) hk,←List.replicate_succ']
def Ez (w:World) (g:Nat):Nat:=match w.heap[g]? with
 | some (.cells cs _ _)=>(cs.toList.filter fun v=>decide (0<=intOf v)).length
 | _=>0
theorem Be {w:World} {g:Nat} {vs:List Int} (h:w.heap[g]?=some (.cells (arr vs) 3 (0,0))):Ez w g=jw vs:=by
 unfold Ez jw
 rw [h]
 simp only [arr,List.filter_map,List.length_map]
 congr 1
def IG (c:Value) (w:World) (g N:Nat):Nat:=match c with
 | .bool true=>N+1 - Ez w g
 | _=>0
def zN (d:Dev) (ts:List au) (st pads:List Int) (N:Nat) (c:Bool) (vs:List Int):Prop :=
 if c=true then ∃j,vs=itV d ts st pads N j/\j<=jw vs else ∃j,j<=N/\vs=itV d ts st pads N j/\bu d ts st pads vs N=vs
theorem yA {d:Dev} {ts:List au} {st pads vs:List Int} {N:Nat} (h:zN d ts st pads N true vs) (cb:Bool) (hc:cb=decide (jw vs<jw (bu d ts st pads vs N))) (hl:vs.length=N):zN d ts st pads N cb (bu d ts st pads vs N):=by
 unfold zN at *
 rw [if_pos rfl] at h
 obtain ⟨j,hj,hcnt⟩:=h
 cases cb with
 | true =>
  rw [if_pos rfl]
  have:=of_decide_eq_true hc.symm
  refine ⟨j+1,?_,by omega⟩
  rw [itV,←hj]
 | false =>
  rw [if_neg (by simp)]
  have h1:=of_decide_eq_false hc.symm
  have h2:=pq d ts st pads vs N
  have h3:=h2.2 (by omega)
  have h4:=sZ vs
  refine ⟨j,by omega,by rw [h3];exact hj,by rw [h3];exact h3⟩
theorem yB {d:Dev} {ts:List au} {st pads vs:List Int} {N:Nat} (h:zN d ts st pads N false vs) (hN:N=(ai d).toNat):vs=mV d ts st pads:=by
 unfold zN at h
 rw [if_neg (by simp)] at h
 obtain ⟨j,hj,hv,hs⟩:=h
 subst hN
 rw [Fv hj (by rw [←hv];exact hs)]
 exact hv
theorem iU {d:Dev} {ts:List au} {st pads us:List Int} {n:Int} (h:¬(bS d n=true/\nv us n<0/\0<=iw d ts st pads us n)):ku d ts st pads us n=us:=by unfold ku;rw [if_neg h]
theorem nS {d:Dev} {ts:List au} {st pads us:List Int} {n:Int} (h:bS d n=true/\nv us n<0/\0<=iw d ts st pads us n):ku d ts st pads us n=us.set n.toNat (iw d ts st pads us n):=by unfold ku;rw [if_pos h]
theorem yC {d:Dev} {ts:List au} {st pads us:List Int} {n:Int} (h:n % aM d=5∨n % aM d=6):iw d ts st pads us n=sW d ts st pads us (n / aM d) (n % aM d - 5):=by unfold iw;rw [if_pos h]
theorem yD {d:Dev} {ts:List au} {st pads us:List Int} {n:Int} (h:¬(n % aM d=5∨n % aM d=6)) (h0:0<=fV d ts n):iw d ts st pads us n=nv us (fV d ts n):=by unfold iw;rw [if_neg h,if_pos h0]
theorem wO {d:Dev} {ts:List au} {st pads us:List Int} {n:Int} (h:¬(n % aM d=5∨n % aM d=6)) (h0:¬0<=fV d ts n):iw d ts st pads us n=0:=by unfold iw;rw [if_neg h,if_neg h0]
theorem GK {d:Dev} {k N:Nat} (h:k<N):(um d N)[k]?.getD false=bS d (k:Int):=by
 unfold um
 rw [List.getElem?_map,List.getElem?_range h]
 rfl
theorem DZ (g:Nat) (d:Dev) (ts:List au) (TA:Option Addr) (m tc:Nat) (EA DA:Option Addr) (N:Nat) (SA:Option Addr) (sn sc:Nat) (st:List Int) (PA:Option Addr) (pn pc:Nat) (pads:List Int) (w:World)
  (hem:uQ w g d ts TA m tc EA DA N) (hN:(N:Int)=ai d) (hst:bH w SA sn st) (hpa:bH w PA pn pads) (hsn:(sn:Int)=2 * (d.W * d.H)) (hpn:(pn:Int)=d.W * d.H) (hsp:kD d ts st pads) (hc:kN d ts) :
  Calls Tryz.prog 201 #[.pointer (some ⟨g,0,none⟩),.slice SA sn sc,.slice PA pn pc] w fun e' w'=>∃A',e' = .returned (.slice A' N N)/\Own w.heap.size w' A' N N (mV d ts st pads)/\Below w.heap.size w w':=by
 have hnb:=cK hc.dev
 have hWH:=dL hc.dev
 have hgl:=aX hem.box
 have x5:=aC (k:=5) hem.box rfl
 have HNT:Hid (N=(ai d).toNat):=by show _=_;omega
 have HNI:Hid (∀k:Nat,k<N→bZ d (k:Int)=true):=by
  intro k hk
  exact iQ.2 ⟨hc.dev,by omega,by omega⟩
 obtain ⟨be,oe,rfl,hbe,hce⟩:=hem.exist.2 (by omega)
 obtain ⟨bd,od,rfl,hbd,hcd⟩:=hem.drv.2 (by omega)
 have HX:=Hd (And.intro (aC (k:=0) hem.box rfl) (And.intro (aC (k:=1) hem.box rfl) (And.intro (aC (k:=2) hem.box rfl) (And.intro (aC (k:=3) hem.box rfl) (And.intro (aC (k:=5) hem.box rfl) (aC (k:=6) hem.box rfl))))))
 have HCE:=Hd hce
 have HCD:=Hd hcd
 have HPIN:=Hd (fun (VA:Option Addr) (vc:Nat) (vs:List Int) (t e:Int) (w':World) (hb:Below w.heap.size w w') (hv:bH w' VA N vs) (h3:In3 vs) (ht:bI d t=true) (he:0<=e/\e<=1)=>Gi g d ts TA m tc (some ⟨be,oe,none⟩) (some ⟨bd,od,none⟩) N VA vc vs SA sn sc st PA pn pc pads t e w' (hem.below hb) hv h3 hN (hst.below hb) (hpa.below hb) hsn hpn hsp hc ht he)
 have HDN:=Hd (fun n h=>(sI (n:=n) hc h).1)
 have HIN:=Hd (fun j=>CZ hsp N j)
 have HSWI:=Hd (fun vs hv k=>rO (vs:=vs) hsp hv k)
 have HNV:=Hd (fun vs (hv:In3 vs) n hn=>wB (n:=n) hsp hv hn)
 have HNE:=Hd hN
 rw [←hN] at hnb
 obtain ⟨i0,hi,hz0,hz1,hz2⟩:=info_parts eP
 have hmk:=fun W=>bU (P:=Tryz.prog) 27 3 i0 _ Tryz.underlying27 hi hz0 .i64 .i64 N N (Nat.le_refl _) (by rw [hz2];omega) (by omega) W
 rw [hz1,Nat.mul_one,show (Value.int .i64 0).cells=#[Value.int .i64 0] from rfl,iV] at hmk
 clear hi hz0 hz1 hz2 hem hst hpa hsp hc hce hcd hN
 go_enter Tryz.func201,Tryz.ntmps201
 go_wp2_with fail
 clear hmk
 have H0:=Hd (aL w (.cells (arr (List.replicate N 0)) 3))
 go_loopw [22] (fun i wr=>∃k:Nat,k<=N/\i = .int .i64 k/\wr.heap[w.heap.size]?=some (.cells (arr (List.replicate k (-1)++List.replicate (N - k) 0)) 3 (0,0))/\Below w.heap.size w wr) (fun i _=>N - (intOf i).toNat)
 case atStart=>exact ⟨0,by omega,rfl,H0.out,aB (Below.refl _ _) _⟩
 case round =>
  obtain ⟨k,hk,rfl,ho,hb⟩:=hrel
  have HO:=Hd ho
  have HB:=Hd hb
  by_cases hlt:k<N
  ·have hdk:decide ((k:Int)<(N:Int))=true:=by simp;omega
   have zk:=aC (k:=k) ho (fC (by simp;omega))
   have yk:=aJ ho k
   have h1:=bF ho k (.int .i64 (-1))
   rw [iA,Ey hlt] at h1
   have H1:=Hd h1
   have q0:(0:Int)<=(k:Int):=by omega
   have q1:(k:Int)<(N:Int):=by omega
   clear ho hb h1
   go_wp2_with fail
   go_roundw
   case rel=>exact ⟨k+1,by omega,by go_num,H1.out,HB.out.setCell (p:=⟨w.heap.size,k,none⟩) (Nat.le_refl _) _⟩
   case measure=>simp [intOf];omega
  ·have hkN:k=N:=by omega
   have HKN:=Hd hkN
   have hdk:decide ((k:Int)<(N:Int))=false:=by simp;omega
   have h2:wr.heap[w.heap.size]?=some (.cells (arr (itV d ts st pads N 0)) 3 (0,0)):=by
    rw [ho,hkN,Nat.sub_self,List.replicate_zero,List.append_nil];rfl
   have H2:=Hd h2
   clear hkN ho hb h2
   go_wp2_with fail
   go_loopw [9] (fun c wr=>∃(cb:Bool) (vs:List Int),c = .bool cb/\wr.heap[w.heap.size]?=some (.cells (arr vs) 3 (0,0))/\vs.length=N/\In3 vs/\zN d ts st pads N cb vs/\Below w.heap.size w wr) (fun c wr=>IG c wr w.heap.size N)
   case atStart=>exact ⟨true,_,rfl,H2.out,wC _ _ _ _ _ _,HIN.out 0,by unfold zN;rw [if_pos rfl];exact ⟨0,rfl,Nat.zero_le _⟩,HB.out⟩
   case round =>
    obtain ⟨cb,vs,rfl,ho,hvl,hv3,hrv,hb⟩:=hrel
    have HO:=Hd ho
    have HVL:=Hd hvl
    have HV3:=Hd hv3
    have HRV:=Hd hrv
    have HB:=Hd hb
    have HCN:=Hd (Be ho)
    clear ho hvl hv3 hrv hb
    cases cb with
    | false =>
     go_wp2_with fail
     go_ret
     exact ⟨some ⟨w.heap.size,0,none⟩,rfl,by rw [←yB HRV.out HNT.out];exact Own.arr HO.out (Nat.le_refl _) (by unfold maxLen;omega) HVL.out,HB.out⟩
    | true =>
     obtain ⟨wo,rfl⟩:∃x,x=wr:=⟨wr,rfl⟩
     go_wp2_with fail
     go_loopw [9,32] (fun c i wr=>∃(k:Nat) (cb:Bool),k<=N/\i = .int .i64 k/\c = .bool cb/\cb=decide (jw vs<jw (bu d ts st pads vs k))/\wr.heap[w.heap.size]?=some (.cells (arr (bu d ts st pads vs k)) 3 (0,0))/\Below w.heap.size w wr) (fun _ i _=>N - (intOf i).toNat)
     case atStart=>exact ⟨0,false,by omega,rfl,rfl,by simp [bu],HO.out,HB.out⟩
     case round =>
      obtain ⟨k,cb,hk,rfl,rfl,hcb,ho,hb⟩:=hrel
      have HCB:=Hd hcb
      have HO:=Hd ho
      have HB:=Hd hb
      clear hcb ho hb
      by_cases hlt:k<N
      ·have hdk:decide ((k:Int)<(N:Int))=true:=by simp;omega
       have hni:=HNI.out k hlt
       have HNIK:=Hd hni
       have HUL:Hid ((bu d ts st pads vs k).length=N):=by show _=_;rw [jh];exact HVL.out
       have HU3:=Hd (HSWI.out vs HV3.out k)
       have HSWS:Hid (bu d ts st pads vs (k+1)=ku d ts st pads (bu d ts st pads vs k) (k:Int)):=rfl
       have HCM:=Hd (pq d ts st pads vs k).1
       obtain ⟨_,n0,n1,hq0,hq1,hr0,hr1⟩:=dX hni
       have HTI:=Hd (gK hni)
       generalize bu d ts st pads vs k=us at *
       have ce:=HCE.out k hlt
       rw [GK hlt] at ce
       have ho:=HO.out
       have zu:=aC (k:=k) ho (fC (by rw [HUL.out];exact hlt))
       have HUD:Hid (us[k]?.getD 0=nv us (k:Int)):=by show _=_;unfold nv;rw [Int.toNat_natCast]
       rw [HUD.out] at zu
       obtain ⟨q0,q1,q2,q3,q5,q6⟩:=HX.out
       have hwr:=aX ho
       have hgr:g<wr.heap.size:=by omega
       have hber:be<wr.heap.size:=by omega
       have hbdr:bd<wr.heap.size:=by omega
       obtain ⟨hcc,hff⟩:=aO HB.out
       have j0:(0:Int)<=(k:Int):=by omega
       have j1:(k:Int)<(N:Int):=by omega
       generalize hNO:bS d (k:Int)=bo at *
       have HNO:=Hd hNO
       clear hNO hni ho
       cases bo with
       | false =>
        have HSM:=Hd (iU (d:=d) (ts:=ts) (st:=st) (pads:=pads) (us:=us) (n:=(k:Int)) (by rw [HNO.out];simp))
        clear zu q0 q1 q2 q3 q6
        go_wp2_with fail
        go_roundw
        case rel=>exact ⟨k+1,cb,by omega,by go_num,rfl,by rw [HSWS.out,HSM.out];exact HCB.out,by rw [HSWS.out,HSM.out];exact HO.out,HB.out⟩
        case measure=>simp [intOf];omega
       | true =>
        generalize hU:nv us (k:Int)=u at *
        have HU:=Hd hU
        clear hU
        by_cases hu0:u≥0
        ·have hdu:decide (u≥0)=true:=by simpa using hu0
         have HSM:=Hd (iU (d:=d) (ts:=ts) (st:=st) (pads:=pads) (us:=us) (n:=(k:Int)) (by rw [HU.out];exact fun h=>by have:=h.2.1;omega))
         go_wp2_with fail
         go_roundw
         case rel=>exact ⟨k+1,cb,by omega,by go_num,rfl,by rw [HSWS.out,HSM.out];exact HCB.out,by rw [HSWS.out,HSM.out];exact HO.out,HB.out⟩
         case measure=>simp [intOf];omega
        ·have hdu:decide (u≥0)=false:=by simp;omega
         have HU0:Hid (nv us (k:Int)<0):=by show _<_;rw [HU.out];omega
         have HNP:=Hd (fun w'=>fD d (k:Int) w' HNIK.out)
         have HVB:=Hd (HNV.out us HU3.out (k:Int) HNIK.out)
         go_wp2_with fail
         refine (HNP.out _).mono ?_
         rintro e' w5 ⟨rfl,b5⟩
         have HB5:=Hd (HB.out.trans (b5.mono HB.out.size))
         have HO5:=Hd (aF b5 HO.out)
         have hs5:=b5.size
         clear b5 hcc hff zu ce
         obtain ⟨hcc,hff⟩:=aO HB5.out
         have hgr5:g<w5.heap.size:=by omega
         have hbdr5:bd<w5.heap.size:=by omega
         generalize hpin:(k:Int) % aM d=pin at *
         generalize hq:(k:Int) / aM d=q at *
         have HPQ:=Hd (And.intro hpin hq)
         clear hpin hq
         by_cases h5:pin=5∨pin=6
         ·have HVE0:=Hd (yC (d:=d) (ts:=ts) (st:=st) (pads:=pads) (us:=us) (n:=(k:Int)) (by rw [HPQ.out.1];exact h5))
          have HCALL:=Hd (fun w' hb hv=>HPIN.out (some ⟨w.heap.size,0,none⟩) N us q (pin - 5) w' hb hv HU3.out HTI.out (by omega))
          rw [HPQ.out.1,HPQ.out.2] at HVE0
          have hvb:=HVB.out
          rw [HVE0.out] at hvb
          generalize hv:sW d ts st pads us q (pin - 5)=v at *
          have HVE:=HVE0
          clear hv
          have hpp:(pin==5)=true∨((pin==5)=false/\(pin==6)=true):=by
           rcases h5 with h|h
           ·exact .inl (by simpa using h)
           ·exact .inr ⟨by simp;omega,by simpa using h⟩
          have e4:IntKind.i64.wrap (pin - 5)=pin - 5:=IntWalk.i64_in _ (by omega)
          clear h5
          rcases hpp with p5|⟨p5,p6⟩
          all_goals
           go_wp2_with fail
           refine (HCALL.out _ HB5.out (zh HO5.out HUL.out)).mono ?_
           rintro e' w6 ⟨rfl,b6⟩
           have HB6:=Hd (HB5.out.trans (b6.mono HB5.out.size))
           have HO6:=Hd (aF b6 HO5.out)
           clear b6 hcc hff
           by_cases hv0:v≥0
           ·have hdv:decide (v≥0)=true:=by simpa using hv0
            have HNW:=Hd (nS (d:=d) (ts:=ts) (st:=st) (pads:=pads) (us:=us) (n:=(k:Int)) ⟨HNO.out,HU0.out,by rw [HVE.out];exact hv0⟩)
            have zk:=aC (k:=k) HO6.out (fC (by rw [HUL.out];exact hlt))
            have yk:=aJ HO6.out k
            have h1:=bF HO6.out k (.int .i64 v)
            rw [iA] at h1
            have H1:=Hd h1
            have HCS:=Hd (pm (vs:=us) (k:=k) (by rw [HUL.out];exact hlt) HU0.out (x:=v) hv0)
            clear h1
            go_wp2_with fail
            go_roundw
            case rel=>exact ⟨k+1,true,by omega,by go_num,rfl,by rw [HSWS.out,HNW.out,HVE.out,Int.toNat_natCast,HCS.out];exact (decide_eq_true (by have:=HCM.out;omega)).symm,by rw [HSWS.out,HNW.out,HVE.out,Int.toNat_natCast];exact H1.out,HB6.out.setCell (p:=⟨w.heap.size,k,none⟩) (Nat.le_refl _) _⟩
            case measure=>simp [intOf];omega
           ·have hdv:decide (v≥0)=false:=by simp;omega
            have HSM:=Hd (iU (d:=d) (ts:=ts) (st:=st) (pads:=pads) (us:=us) (n:=(k:Int)) (by rw [HVE.out];exact fun h=>hv0 h.2.2))
            go_wp2_with fail
            go_roundw
            case rel=>exact ⟨k+1,cb,by omega,by go_num,rfl,by rw [HSWS.out,HSM.out];exact HCB.out,by rw [HSWS.out,HSM.out];exact HO6.out,HB6.out⟩
            case measure=>simp [intOf];omega
         ·have p5:(pin==5)=false:=by simp;omega
          have p6:(pin==6)=false:=by simp;omega
          have cd:=HCD.out k hlt
          rw [qJ hlt] at cd
          have HND:=Hd (fun h=>yD (d:=d) (ts:=ts) (st:=st) (pads:=pads) (us:=us) (n:=(k:Int)) (by rw [HPQ.out.1];exact h5) h)
          have HNN:=Hd (fun h=>wO (d:=d) (ts:=ts) (st:=st) (pads:=pads) (us:=us) (n:=(k:Int)) (by rw [HPQ.out.1];exact h5) h)
          have HDI:=Hd (fun h=>HDN.out (k:Int) h)
          generalize fV d ts (k:Int)=s at *
          clear h5
          by_cases hs0:s≥0
          ·have hds:decide (s≥0)=true:=by simpa using hs0
           obtain ⟨-,-,hsn',-⟩:=dX (HDI.out hs0)
           have hsN:=(iQ.1 (HDI.out hs0)).2.2
           obtain ⟨sn',rfl⟩:=Int.eq_ofNat_of_zero_le hs0
           have hsNN:sn'<N:=by have:=HNE.out;omega
           have HVE:=Hd (HND.out hs0)
           have zs:=aC (k:=sn') HO5.out (fC (by rw [HUL.out];exact hsNN))
           have HUD2:Hid (us[sn']?.getD 0=nv us (sn':Int)):=by show _=_;unfold nv;rw [Int.toNat_natCast]
           rw [HUD2.out] at zs
           have m0:(0:Int)<=(sn':Int):=by omega
           have m1:(sn':Int)<(N:Int):=by omega
           have hwr5:=aX HO5.out
           have hvb:=HVB.out
           rw [HVE.out] at hvb
           generalize nv us (sn':Int)=v at *
           clear hsN hsn'
           by_cases hv0:v≥0
           ·have hdv:decide (v≥0)=true:=by simpa using hv0
            have HNW:=Hd (nS (d:=d) (ts:=ts) (st:=st) (pads:=pads) (us:=us) (n:=(k:Int)) ⟨HNO.out,HU0.out,by rw [HVE.out];exact hv0⟩)
            have zk:=aC (k:=k) HO5.out (fC (by rw [HUL.out];exact hlt))
            have yk:=aJ HO5.out k
            have h1:=bF HO5.out k (.int .i64 v)
            rw [iA] at h1
            have H1:=Hd h1
            have HCS:=Hd (pm (vs:=us) (k:=k) (by rw [HUL.out];exact hlt) HU0.out (x:=v) hv0)
            clear h1
            go_wp2_with fail
            go_roundw
            case rel=>exact ⟨k+1,true,by omega,by go_num,rfl,by rw [HSWS.out,HNW.out,HVE.out,Int.toNat_natCast,HCS.out];exact (decide_eq_true (by have:=HCM.out;omega)).symm,by rw [HSWS.out,HNW.out,HVE.out,Int.toNat_natCast];exact H1.out,HB5.out.setCell (p:=⟨w.heap.size,k,none⟩) (Nat.le_refl _) _⟩
            case measure=>simp [intOf];omega
           ·have hdv:decide (v≥0)=false:=by simp;omega
            have HSM:=Hd (iU (d:=d) (ts:=ts) (st:=st) (pads:=pads) (us:=us) (n:=(k:Int)) (by rw [HVE.out];exact fun h=>hv0 h.2.2))
            go_wp2_with fail
            go_roundw
            case rel=>exact ⟨k+1,cb,by omega,by go_num,rfl,by rw [HSWS.out,HSM.out];exact HCB.out,by rw [HSWS.out,HSM.out];exact HO5.out,HB5.out⟩
            case measure=>simp [intOf];omega
          ·have hds:decide (s≥0)=false:=by simp;omega
           have HVE:=Hd (HNN.out (by omega))
           have HNW:=Hd (nS (d:=d) (ts:=ts) (st:=st) (pads:=pads) (us:=us) (n:=(k:Int)) ⟨HNO.out,HU0.out,by rw [HVE.out];exact Int.le_refl _⟩)
           have zk:=aC (k:=k) HO5.out (fC (by rw [HUL.out];exact hlt))
           have yk:=aJ HO5.out k
           have h1:=bF HO5.out k (.int .i64 0)
           rw [iA] at h1
           have H1:=Hd h1
           have HCS:=Hd (pm (vs:=us) (k:=k) (by rw [HUL.out];exact hlt) HU0.out (x:=0) (Int.le_refl _))
           have hwr5:=aX HO5.out
           clear h1
           go_wp2_with fail
           go_roundw
           case rel=>exact ⟨k+1,true,by omega,by go_num,rfl,by rw [HSWS.out,HNW.out,HVE.out,Int.toNat_natCast,HCS.out];exact (decide_eq_true (by have:=HCM.out;omega)).symm,by rw [HSWS.out,HNW.out,HVE.out,Int.toNat_natCast];exact H1.out,HB5.out.setCell (p:=⟨w.heap.size,k,none⟩) (Nat.le_refl _) _⟩
           case measure=>simp [intOf];omega
      ·have hkN:k=N:=by omega
       have HKN:=Hd hkN
       have hdk:decide ((k:Int)<(N:Int))=false:=by simp;omega
       have hsl:=jh d ts st pads vs k
       clear hkN
       have HNX:=Hd (yA HRV.out cb (by rw [←HKN.out];exact HCB.out) HVL.out)
       have HLE:=Hd (sZ (bu d ts st pads vs k))
       have HSL:=Hd hsl
       have HC2:=Hd (Be HO.out)
       clear hsl
       go_wp2_with fail
       go_roundw
       case rel=>exact ⟨cb,_,rfl,HO.out,by rw [HSL.out];exact HVL.out,HSWI.out _ HV3.out k,by have h:=HNX.out;rw [←HKN.out] at h ⊢;exact h,HB.out⟩
       case measure =>
        have h1:=HC2.out
        have h2:=HCN.out
        have h3:=HLE.out
        rw [HSL.out,HVL.out] at h3
        have h4:=HCB.out
        have h5:=sZ vs
        rw [HVL.out] at h5
        cases cb with
        | true =>
         show N+1 - Ez wr _<N+1 - Ez wo _
         rw [h1,h2]
         have:=of_decide_eq_true h4.symm
         omega
        | false =>
         show 0<N+1 - Ez wo _
         rw [h2]
         omega
theorem Bf (d:Dev) (ts:List au) (TA:Option Addr) (m tc:Nat) (N:Nat) (VA:Option Addr) (vc:Nat) (vs:List Int) (t e:Int) (w:World) (htr:RdC w w.heap.size (lH ts) (.slice TA m tc)) (hv:bH w VA N vs) (h3:In3 vs) (hN:(N:Int)=ai d) (hc:kN d ts) (ht:bI d t=true) (he:0<=e/\e<=1) :
  Calls Tryz.prog 206 #[.agg #[.int .i64 d.W,.int .i64 d.H,.int .i64 d.T,.int .i64 d.R],.slice TA m tc,.slice VA N vc,.int .i64 t,.int .i64 e] w fun e' w'=>e' = .returned (.int .i64 (lm d vs t (fK ts t e)))/\Below w.heap.size w w':=by
 obtain ⟨hlf,hl2,htl,hf⟩:=uD hc ht he
 obtain ⟨hsl,hsin⟩:=Dy hlf
 obtain ⟨hd,t0,t1⟩:=aV.1 ht
 have hWH:=dL hd
 have hT:=aY hd
 have hp:=bg hd
 have hnb:=cK hd
 have hmk:=hlf.mask
 obtain ⟨b,o,S,m3,p,L,l,q,rfl,hb,ca,cl,-,-,-,rl⟩:=htr.tile htl
 change RdC w w.heap.size (qG (di ts t).les) (.slice L l q) at rl
 have hll:=rl.elen
 obtain ⟨bl,ol,S4,m4,p4,rfl,hbl,d0,d1,d2,d3,r4⟩:=rl.le (k:=e.toNat) (by omega)
 change w.cell? ⟨bl,ol+e.toNat * 4+1,none⟩=some (.int .i64 (fK ts t e).mask) at d1
 change w.cell? ⟨bl,ol+e.toNat * 4+2,none⟩=some (.int .i64 (fK ts t e).flop) at d2
 change w.cell? ⟨bl,ol+e.toNat * 4+3,none⟩=some (.int .i64 (fK ts t e).init) at d3
 change RdC w w.heap.size (ig (fK ts t e).sel) (.slice S4 m4 p4) at r4
 have hS:=RdC.ints r4
 have htt:=htr.tlen
 have hm4:m4=4:=by rw [←hS.1];exact hsl
 subst hm4
 have hl:l=2:=by rw [←hll];exact hl2
 subst hl
 obtain ⟨bs,os,rfl,hbs,hcs⟩:=hS.2 (by omega)
 obtain ⟨bv,ov,rfl,hbv,hcv⟩:=hv.2 (by omega)
 have HLT:=Hd (Al (d:=d) h3 t (fK ts t e).sel)
 have HIN:=Hd (fun s=>ym (d:=d) h3 t s)
 have HLF:Hid (lm d vs t (fK ts t e)=if nP d vs t (fK ts t e).sel 4=true then -1 else ((bit (fK ts t e).mask.toNat (jR d vs t (fK ts t e).sel 4):Nat):Int)):=rfl
 have HSI:=Hd hsin
 have HCS:=Hd hcs
 have HCV:=Hd hcv
 have HT:=Hd ht
 have HNE:=Hd hN
 obtain ⟨tn,rfl⟩:=Int.eq_ofNat_of_zero_le t0
 obtain ⟨en,rfl⟩:=Int.eq_ofNat_of_zero_le he.1
 rw [Int.toNat_natCast] at ca cl htl d0 d1 d2 d3
 have i0:(0:Int)<=(tn:Int):=t0
 have i1:(tn:Int)<(m:Int):=by omega
 have j0:(0:Int)<=(en:Int):=he.1
 have j1:(en:Int)<2:=by omega
 clear h3 hc ht hd hf hlf hsin rl r4 hN ca hv hS hsl hll htt hl2 htr hcs hcv
 generalize fK ts (tn:Int) (en:Int)=le at *
 generalize hmm:le.mask=mk at *
 obtain ⟨mk,rfl⟩:=Int.eq_ofNat_of_zero_le hmk.1
 clear hmm
 go_enter Tryz.func206,Tryz.ntmps206
 go_wp2_with fail
 clear cl d0 d1 d2 d3
 go_loopw [12,13] (fun v i wr=>∃j:Nat,j<=4/\i = .int .i64 j/\v = .int .i64 ((jR d vs (tn:Int) le.sel j:Nat):Int)/\nP d vs (tn:Int) le.sel j=false/\Below ((w.alloc (.cells #[.int .i64 d.W,.int .i64 d.H,.int .i64 d.T,.int .i64 d.R] 25)).alloc (.cells #[.slice (some ⟨bs,os,none⟩) 4 p4,.int .i64 (mk:Int),.int .i64 le.flop,.int .i64 le.init] 107)).heap.size ((w.alloc (.cells #[.int .i64 d.W,.int .i64 d.H,.int .i64 d.T,.int .i64 d.R] 25)).alloc (.cells #[.slice (some ⟨bs,os,none⟩) 4 p4,.int .i64 (mk:Int),.int .i64 le.flop,.int .i64 le.init] 107)) wr) (fun _ i _=>4 - (intOf i).toNat)
 case atStart=>exact ⟨0,by omega,rfl,rfl,rfl,Below.refl _ _⟩
 case round =>
  obtain ⟨j,hj,rfl,rfl,hneg,hb⟩:=hrel
  have HNG:=Hd hneg
  have HB:=Hd hb
  have hs:=hb.size
  simp only [World.size_alloc] at hs
  clear hneg
  have hbw:Below w.heap.size w wr:=aA (aB (aB (Below.refl _ _) _) _) hb
  have HBW:=Hd hbw
  by_cases hlt:j<4
  ·have hdj:decide ((j:Int)<4)=true:=by simp;omega
   have hck:=(hbw.cell (p:=⟨bs,os+j,none⟩) hbs).trans (HCS.out j hlt)
   have hsj:=HSI.out j hlt
   have HNS:Hid (nP d vs (tn:Int) le.sel (j+1)=(nP d vs (tn:Int) le.sel j || decide (qW d vs (tn:Int) (le.sel[j]?.getD 0)<0))):=rfl
   have HIS:Hid (jR d vs (tn:Int) le.sel (j+1)=jR d vs (tn:Int) le.sel j+(qW d vs (tn:Int) (le.sel[j]?.getD 0)).toNat * 2 ^ j):=rfl
   have hvj:=HIN.out (le.sel[j]?.getD 0)
   have hidx:=HLT.out j
   have HSA:=Hd (fun h=>Dz (d:=d) (vs:=vs) (t:=(tn:Int)) (s:=le.sel[j]?.getD 0) h)
   have HSZ:=Hd (fun h=>xg (d:=d) (vs:=vs) (t:=(tn:Int)) (s:=le.sel[j]?.getD 0) h)
   have HMO:=Hd (fun h=>vz (d:=d) (vs:=vs) (t:=(tn:Int)) (sel:=le.sel) (j:=j+1) (k:=4) (by omega) h)
   have j0':(0:Int)<=(j:Int):=by omega
   have j1':(j:Int)<4:=by omega
   have hbsr:bs<wr.heap.size:=by omega
   have hbvr:bv<wr.heap.size:=by omega
   have hwr0:w.heap.size<wr.heap.size:=by omega
   have hwr1:w.heap.size+1<wr.heap.size:=by omega
   generalize le.sel[j]?.getD 0=s at *
   generalize hsv:qW d vs (tn:Int) s=v at *
   generalize jR d vs (tn:Int) le.sel j=idx at *
   have HIDX:=Hd hidx
   obtain ⟨hcc,hff⟩:=aO hb
   clear hb hidx hsv
   by_cases hs0:s>0
   ·have hds:decide (s>0)=true:=by simpa using hs0
    have hM:=vG HT.out (k:=s - 1) (by omega) (by omega)
    have hvs:=HSA.out hs0
    have hcx:=(hbw.cell (p:=⟨bv,ov+((tn:Int) * aM d+s - 1).toNat,none⟩) hbv).trans (HCV.out ((tn:Int) * aM d+s - 1).toNat (by have:=HNE.out;omega))
    change wr.cell? ⟨bv,ov+((tn:Int) * aM d+s - 1).toNat,none⟩=some (.int .i64 (nv vs ((tn:Int) * aM d+s - 1))) at hcx
    rw [←hvs,show ((tn:Int) * aM d+s - 1).toNat=((tn:Int) * aM d+s).toNat - 1 by omega] at hcx
    have k0:(0:Int)<=(tn:Int) * aM d+s - 1:=by omega
    have k1:(tn:Int) * aM d+s - 1<(N:Int):=by have:=HNE.out;omega
    have f1:wrap64 ((tn:Int) * aM d)=(tn:Int) * aM d:=IntWalk.wrap64_in _ (by omega)
    have f2:wrap64 ((tn:Int) * aM d+s)=(tn:Int) * aM d+s:=IntWalk.wrap64_in _ (by omega)
    have f3:wrap64 ((tn:Int) * aM d+s - 1)=(tn:Int) * aM d+s - 1:=IntWalk.wrap64_in _ (by omega)
    clear hvs hbw
    go_wp2_with fail
    have hsub:=gP wr
    have hsc:=dN wr
    refine bG wr (by kernel_rfl) (by kernel_rfl) (Below.refl _ _) ?_
    repeat (go_big_quiet_step ((go_at_call 65;with_reducible exact bB (dB d _ (by omega) (by omega)))))
    refine wpQuiet_nil ?_
    rintro _ ⟨⟨w5,hD⟩,rfl⟩
    have HB5:=Hd (aA HB.out hD)
    clear hsub hsc hcc hff hck hcx hD f1 f2 f3
    by_cases hv0:v<0
    ·have hdv:decide (v<0)=true:=by simpa using hv0
     have HE:Hid (lm d vs (tn:Int) le=-1):=by show _=_;rw [HLF.out,if_pos (HMO.out (by rw [HNS.out,hdv];simp))]
     go_wp2_with fail
     go_ret
     exact ⟨aP HE.out.symm,aA (aB (aB (Below.refl _ _) _) _) HB5.out⟩
    ·have hdv:decide (v<0)=false:=by simp;omega
     obtain ⟨vn,rfl⟩:=Int.eq_ofNat_of_zero_le (show 0<=v by omega)
     have hv1:vn<=1:=by omega
     go_wp2_with fail
     go_roundw
     case rel=>exact ⟨j+1,by omega,by go_num,by rw [qI HIDX.out hv1 (by omega),HIS.out,Int.toNat_natCast],by rw [HNS.out,HNG.out,hdv];rfl,HB5.out⟩
     case measure=>simp [intOf];omega
   ·have hds:decide (s>0)=false:=by simp;omega
    have hvz:=HSZ.out hs0
    subst hvz
    have hp2:2 ^ j<=2 ^ 4:=Nat.pow_le_pow_right (by omega) (by omega)
    have hi16:idx<16:=by have:=HIDX.out;omega
    clear hs0 HSA hbw hp2
    go_wp2_with fail
    go_roundw
    case rel=>exact ⟨j+1,by omega,by go_num,by rw [HIS.out];simp,by rw [HNS.out,HNG.out];rfl,HB.out⟩
    case measure=>simp [intOf];omega
  ·have hj4:j=4:=by omega
   have HJ4:=Hd hj4
   have hidx:=HLT.out 4
   have HE:Hid (lm d vs (tn:Int) le=((bit mk (jR d vs (tn:Int) le.sel 4):Nat):Int)):=by
    have h:=HNG.out
    rw [HJ4.out] at h
    show _=_
    rw [HLF.out,h]
    rfl
   subst hj4
   generalize jR d vs (tn:Int) le.sel 4=idx at *
   have hdj:decide (((4:Nat):Int)<4)=false:=by decide
   have hi16:idx<16:=by simpa using hidx
   obtain ⟨hcc,hff⟩:=aO hb
   clear hbw
   go_wp2_with fail
   go_ret
   exact ⟨aP (by rw [HE.out];first|exact jC mk idx (by omega)|rfl),aA (aB (aB (Below.refl _ _) _) _) HB.out⟩
end Go.Proofs.YtignkfhdkcgkgaaGreat
