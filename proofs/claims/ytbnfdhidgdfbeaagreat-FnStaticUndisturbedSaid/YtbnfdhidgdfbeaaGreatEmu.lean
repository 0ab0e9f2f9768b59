/- The kinds of tiles and the states of a device: the program's answers and the reference's are one. -/
import Derived.Test.YtbnfdhidgdfbeaaGreatPads
namespace Go.Proofs.YtbnfdhidgdfbeaaGreat
set_option maxRecDepth 100000
open Go.RowKit

def kindOf (d:Dev) (t:Int):Int :=
 if t % d.W=0∨t % d.W=d.W - 1∨t / d.W=0∨t / d.W=d.H - 1 then 0 else if t % d.W=d.R then 2 else 1
theorem kindOf_bd (d:Dev) (t:Int):kindOf d t=0∨kindOf d t=1∨kindOf d t=2:=by
 unfold kindOf
 split
 ·simp
 ·split <;> simp
def tileKind (d:Dev) (t:Int):Int:=if devOk d=true∧0≤t∧t<d.W * d.H then kindOf d t else -1

set_option maxHeartbeats 1000000 in
theorem tileKind_any (d:Dev) (t:Int) (w:World) (hd:devOk d=true) (ht:0≤t) (ht':t≤1099511627776) :
  Calls Tryz.prog 116 #[.agg #[.int .i64 d.W,.int .i64 d.H,.int .i64 d.T,.int .i64 d.R],.int .i64 t] w fun e w'=>e = .returned (.int .i64 (kindOf d t))∧Below w.heap.size w w':=by
 obtain ⟨hw1,hw2,hh1,hh2,_⟩:=devOk_bd hd
 have e0:¬d.W=0:=by omega
 have e1:t.tmod d.W=t % d.W:=Int.tmod_eq_emod_of_nonneg ht
 have e2:IntKind.i64.wrap (t.tdiv d.W)=t / d.W:=IntWalk.i64_quo _ _ ⟨ht,by omega,by omega⟩
 have hr0:0≤t % d.W:=Int.emod_nonneg _ e0
 have hr1:t % d.W<d.W:=Int.emod_lt_of_pos _ (by omega)
 clear hd
 go_enter Tryz.func116,Tryz.ntmps116
 go_wp2_with fail
 go_quiet (fail)
 clear e1 e2
 go_wp2_with fail
 all_goals (go_ret;exact ⟨ret_int (by (try simp only [beq_iff_eq,beq_eq_false_iff_ne,ne_eq] at *);first|(rw [kindOf,if_pos (by omega)])|(rw [kindOf,if_neg (by omega),if_pos (by omega)])|(rw [kindOf,if_neg (by omega),if_neg (by omega)])),below_drewN (below_new (Below.refl _ _) _) _⟩)

set_option maxHeartbeats 1000000 in
theorem stileKind_any (d:Dev) (t:Int) (w:World) (ht':t≤1099511627776) :
  Calls Tryz.prog 71 #[.agg #[.int .i64 d.W,.int .i64 d.H,.int .i64 d.T,.int .i64 d.R],.int .i64 t] w fun e w'=>e = .returned (.int .i64 (tileKind d t))∧Below w.heap.size w w':=by
 go_enter Tryz.func71,Tryz.ntmps71
 go_wp2_with fail
 refine (sdeviceOk_any d _).mono ?_
 rintro e w1 ⟨rfl,b1⟩
 obtain ⟨hcc,hff⟩:=bcell b1
 have B1:=Lib.hid (below_tr (below_new (Below.refl _ _) _) b1)
 clear b1
 cases hd:devOk d with
 | false =>
  have HD:=Lib.hid hd
  clear hd
  go_wp2_with fail
  go_ret
  exact ⟨ret_int (by rw [tileKind,if_neg (by rw [HD.out];simp)]),B1.out⟩
 | true =>
  obtain ⟨hN,hN1,hN2⟩:=tiles_eq hd
  obtain ⟨hw1,hw2,hh1,hh2,_⟩:=devOk_bd hd
  have HD:=Lib.hid hd
  have HN:=Lib.hid hN
  clear hd
  by_cases h0:t<0
  ·go_wp2_with fail
   go_ret
   exact ⟨ret_int (by rw [tileKind,if_neg (by omega)]),B1.out⟩
  ·by_cases h1:t≥(tiles d:Int)
   ·go_wp2_with fail
    go_ret
    exact ⟨ret_int (by rw [tileKind,if_neg (by rw [HN.out];omega)]),B1.out⟩
   ·have e0:¬d.W=0:=by omega
    have hr0:0≤t % d.W:=Int.emod_nonneg _ e0
    have hr1:t % d.W<d.W:=Int.emod_lt_of_pos _ (by omega)
    have hk:tileKind d t=kindOf d t:=by rw [tileKind,if_pos ⟨HD.out,by omega,by rw [HN.out];omega⟩]
    have HK:=Lib.hid hk
    clear hk
    go_wp2_with fail
    all_goals (go_ret;exact ⟨ret_int (by rw [HK.out];(try simp only [beq_iff_eq,beq_eq_false_iff_ne,ne_eq] at *);first|(rw [kindOf,if_pos (by omega)])|(rw [kindOf,if_neg (by omega),if_pos (by omega)])|(rw [kindOf,if_neg (by omega),if_neg (by omega)])),B1.out⟩)

theorem tileKind_in {d:Dev} {t:Int} (hd:devOk d=true) (h0:0≤t) (h1:t<d.W * d.H):tileKind d t=kindOf d t:=by rw [tileKind,if_pos ⟨hd,h0,h1⟩]
def mostOf (d:Dev) (i:Nat):Int:=if kindOf d ((i / 2:Nat):Int)=1 then 1 else if kindOf d ((i / 2:Nat):Int)=2∧i % 2=0 then 31 else 0
def stOk (d:Dev) (st:List Int):Bool:=devOk d && (decide (st.length=2 * tiles d) && (List.range st.length).all fun i=>inR (st[i]?.getD 0) 0 (mostOf d i))
theorem stOk_bad {d:Dev} {st:List Int} {k:Nat} (hk:k<st.length) (h:inR (st[k]?.getD 0) 0 (mostOf d k)=false):stOk d st=false:=by
 cases hs:stOk d st with
 | false=>rfl
 | true =>
  simp only [stOk,Bool.and_eq_true,List.all_eq_true,List.mem_range] at hs
  rw [hs.2.2 k hk] at h
  cases h
theorem stOk_good {d:Dev} {st:List Int} (hd:devOk d=true) (hl:st.length=2 * tiles d) (h:∀j,j<st.length→inR (st[j]?.getD 0) 0 (mostOf d j)=true):stOk d st=true:=by
 simp only [stOk,Bool.and_eq_true,List.all_eq_true,List.mem_range,decide_eq_true_eq]
 exact ⟨hd,hl,h⟩
set_option maxHeartbeats 2000000 in
theorem emuStateOk_any (d:Dev) (A:Option Addr) (n c:Nat) (st:List Int) (w:World) (hA:Ints w A n st) (hn:n≤16777216) :
  Calls Tryz.prog 45 #[.agg #[.int .i64 d.W,.int .i64 d.H,.int .i64 d.T,.int .i64 d.R],.slice A n c] w fun e w'=>e = .returned (.bool (stOk d st))∧Below w.heap.size w w':=by
 have hB0:Below w.heap.size w (w.alloc (.cells #[.int .i64 d.W,.int .i64 d.H,.int .i64 d.T,.int .i64 d.R] 25)):=below_new (Below.refl _ _) _
 have HI:=Lib.hid hA
 have hX:=hA.1
 have HX:=Lib.hid hX
 clear hA hX
 go_enter Tryz.func45,Tryz.ntmps45
 go_wp2_with fail
 refine (deviceOk_any d _).mono ?_
 rintro e w1 ⟨rfl,b1⟩
 have hs1:=b1.size
 simp only [World.size_alloc] at hs1
 obtain ⟨hcc,hff⟩:=bcell b1
 have B1:=Lib.hid b1
 clear b1
 cases hd:devOk d with
 | false =>
  have HD:=Lib.hid hd
  clear hd
  go_wp2_with fail
  go_ret
  exact ⟨ret_bool (by simp [stOk,HD.out]),below_tr hB0 B1.out⟩
 | true =>
  obtain ⟨hN,hN1,hN2⟩:=tiles_eq hd
  obtain ⟨hw1,hw2,_⟩:=devOk_bd hd
  have hN':2 * d.W * d.H=2 * (tiles d:Int):=by rw [Int.mul_assoc,hN]
  have HD:=Lib.hid hd
  clear hd
  by_cases hlen:n=2 * tiles d
  ·subst hlen
   obtain ⟨hx1,hA⟩:=HI.out.below (below_tr hB0 B1.out)
   clear hx1
   clear HI
   generalize hT:tiles d=N at *
   have HT:=Lib.hid hT
   have HN:=Lib.hid hN
   clear hT hN
   go_wp2_with fail
   go_loopw [24] (fun i wr=>∃k:Nat,k≤2 * N∧i = .int .i64 k∧Below w1.heap.size w1 wr∧∀j,j<k→inR (st[j]?.getD 0) 0 (mostOf d j)=true) (fun i _=>2 * N - (intOf i).toNat)
   case atStart=>exact ⟨0,Nat.zero_le _,rfl,Below.refl _ _,by intro j hj;omega⟩
   case round =>
    obtain ⟨k,hk,rfl,hbe,hall⟩:=hrel
    clear hcc hff
    obtain ⟨hcc,hff⟩:=bcell (below_tr B1.out hbe)
    have HE:=Lib.hid hbe
    have HALL:=Lib.hid hall
    clear hall
    by_cases hlt:k<2 * N
    ·obtain ⟨b,o,rfl,hb,hc⟩:=hA (by omega)
     have hck:=hc k hlt
     rw [←hbe.cell (p:=⟨b,o+k,none⟩) hb] at hck
     clear hc hbe
     have hbr:b<wr.heap.size:=Nat.lt_of_lt_of_le hb HE.out.size
     have hkd:(k:Int) / 2=((k / 2:Nat):Int):=by omega
     have HKD:=Lib.hid hkd
     clear hkd
     go_wp2_with fail
     refine (tileKind_any d _ _ HD.out (by omega) (by omega)).mono ?_
     rintro e w2 ⟨rfl,b2⟩
     rw [HKD.out]
     have hck2:=(b2.cell (p:=⟨b,o+k,none⟩) hbr).trans hck
     have E2:=Lib.hid (below_tr HE.out b2)
     clear b2 hck hcc hff
     obtain ⟨hcc,hff⟩:=bcell (below_tr B1.out E2.out)
     have HMB:Hid (inR (st[k]?.getD 0) 0 (mostOf d k)=false→stOk d st=false):=fun h=>stOk_bad (by rw [HX.out];exact hlt) h
     have HMG:Hid (inR (st[k]?.getD 0) 0 (mostOf d k)=true→∀j,j<k+1→inR (st[j]?.getD 0) 0 (mostOf d j)=true):=fun h=>all_succ HALL.out h
     generalize st[k]?.getD 0=x at *
     have hM:mostOf d k=if kindOf d ((k / 2:Nat):Int)=1 then 1 else if kindOf d ((k / 2:Nat):Int)=2∧k % 2=0 then 31 else 0:=rfl
     have hk3:=kindOf_bd d ((k / 2:Nat):Int)
     generalize kindOf d ((k / 2:Nat):Int)=kd at *
     have HM:=Lib.hid hM
     clear hM
     rcases hk3 with h|h|h
     ·subst h
      have hm:mostOf d k=0:=by rw [HM.out];simp
      rw [hm] at HMB HMG
      clear HM hm
      cases hin:inR x 0 0 with
      | false =>
       have HF:=Lib.hid (HMB.out hin)
       have hcl:∀w,Calls Tryz.prog 68 #[.int .i64 x,.int .i64 0,.int .i64 0] w fun e w'=>e = .returned (.bool false)∧w=w':=fun w=>by
        have:=inRange_any x 0 0 w
        rwa [hin] at this
       have HCL:=Lib.hid hcl
       clear hcl hin HMB HMG
       go_wp2_with (go_at_call 68;refine (HCL.out _).mono ?_;rintro e w' ⟨rfl,rfl⟩)
       go_ret
       exact ⟨ret_bool (by rw [HF.out]),below_tr hB0 (below_tr B1.out E2.out)⟩
      | true =>
       have HG:=Lib.hid (HMG.out hin)
       have hcl:∀w,Calls Tryz.prog 68 #[.int .i64 x,.int .i64 0,.int .i64 0] w fun e w'=>e = .returned (.bool true)∧w=w':=fun w=>by
        have:=inRange_any x 0 0 w
        rwa [hin] at this
       have HCL:=Lib.hid hcl
       clear hcl hin HMB HMG
       go_wp2_with (go_at_call 68;refine (HCL.out _).mono ?_;rintro e w' ⟨rfl,rfl⟩)
       go_roundw
       case rel=>exact ⟨k+1,by omega,by go_num,E2.out,HG.out⟩
       case measure=>simp [intOf];omega
     ·subst h
      have hm:mostOf d k=1:=by rw [HM.out];simp
      rw [hm] at HMB HMG
      clear HM hm
      cases hin:inR x 0 1 with
      | false =>
       have HF:=Lib.hid (HMB.out hin)
       have hcl:∀w,Calls Tryz.prog 68 #[.int .i64 x,.int .i64 0,.int .i64 1] w fun e w'=>e = .returned (.bool false)∧w=w':=fun w=>by
        have:=inRange_any x 0 1 w
        rwa [hin] at this
       have HCL:=Lib.hid hcl
       clear hcl hin HMB HMG
       go_wp2_with (go_at_call 68;refine (HCL.out _).mono ?_;rintro e w' ⟨rfl,rfl⟩)
       go_ret
       exact ⟨ret_bool (by rw [HF.out]),below_tr hB0 (below_tr B1.out E2.out)⟩
      | true =>
       have HG:=Lib.hid (HMG.out hin)
       have hcl:∀w,Calls Tryz.prog 68 #[.int .i64 x,.int .i64 0,.int .i64 1] w fun e w'=>e = .returned (.bool true)∧w=w':=fun w=>by
        have:=inRange_any x 0 1 w
        rwa [hin] at this
       have HCL:=Lib.hid hcl
       clear hcl hin HMB HMG
       go_wp2_with (go_at_call 68;refine (HCL.out _).mono ?_;rintro e w' ⟨rfl,rfl⟩)
       go_roundw
       case rel=>exact ⟨k+1,by omega,by go_num,E2.out,HG.out⟩
       case measure=>simp [intOf];omega
     ·subst h
      by_cases hp:k % 2=0
      ·have hp1:((k:Int) % 2==0)=true:=by simp;omega

       have hm:mostOf d k=31:=by rw [HM.out];simp [hp]
       rw [hm] at HMB HMG
       clear HM hm
       cases hin:inR x 0 31 with
       | false =>
        have HF:=Lib.hid (HMB.out hin)
        have hcl:∀w,Calls Tryz.prog 68 #[.int .i64 x,.int .i64 0,.int .i64 31] w fun e w'=>e = .returned (.bool false)∧w=w':=fun w=>by
         have:=inRange_any x 0 31 w
         rwa [hin] at this
        have HCL:=Lib.hid hcl
        clear hcl hin HMB HMG
        go_wp2_with (go_at_call 68;refine (HCL.out _).mono ?_;rintro e w' ⟨rfl,rfl⟩)
        go_ret
        exact ⟨ret_bool (by rw [HF.out]),below_tr hB0 (below_tr B1.out E2.out)⟩
       | true =>
        have HG:=Lib.hid (HMG.out hin)
        have hcl:∀w,Calls Tryz.prog 68 #[.int .i64 x,.int .i64 0,.int .i64 31] w fun e w'=>e = .returned (.bool true)∧w=w':=fun w=>by
         have:=inRange_any x 0 31 w
         rwa [hin] at this
        have HCL:=Lib.hid hcl
        clear hcl hin HMB HMG
        go_wp2_with (go_at_call 68;refine (HCL.out _).mono ?_;rintro e w' ⟨rfl,rfl⟩)
        go_roundw
        case rel=>exact ⟨k+1,by omega,by go_num,E2.out,HG.out⟩
        case measure=>simp [intOf];omega
      ·have hp1:((k:Int) % 2==0)=false:=by simp;omega

       have hm:mostOf d k=0:=by rw [HM.out];simp [hp]
       rw [hm] at HMB HMG
       clear HM hm
       cases hin:inR x 0 0 with
       | false =>
        have HF:=Lib.hid (HMB.out hin)
        have hcl:∀w,Calls Tryz.prog 68 #[.int .i64 x,.int .i64 0,.int .i64 0] w fun e w'=>e = .returned (.bool false)∧w=w':=fun w=>by
         have:=inRange_any x 0 0 w
         rwa [hin] at this
        have HCL:=Lib.hid hcl
        clear hcl hin HMB HMG
        go_wp2_with (go_at_call 68;refine (HCL.out _).mono ?_;rintro e w' ⟨rfl,rfl⟩)
        go_ret
        exact ⟨ret_bool (by rw [HF.out]),below_tr hB0 (below_tr B1.out E2.out)⟩
       | true =>
        have HG:=Lib.hid (HMG.out hin)
        have hcl:∀w,Calls Tryz.prog 68 #[.int .i64 x,.int .i64 0,.int .i64 0] w fun e w'=>e = .returned (.bool true)∧w=w':=fun w=>by
         have:=inRange_any x 0 0 w
         rwa [hin] at this
        have HCL:=Lib.hid hcl
        clear hcl hin HMB HMG
        go_wp2_with (go_at_call 68;refine (HCL.out _).mono ?_;rintro e w' ⟨rfl,rfl⟩)
        go_roundw
        case rel=>exact ⟨k+1,by omega,by go_num,E2.out,HG.out⟩
        case measure=>simp [intOf];omega
    ·have hkn:k=2 * N:=by omega
     subst hkn
     go_wp2
     go_ret
     exact ⟨ret_bool (by rw [stOk_good HD.out (by rw [HX.out,HT.out]) (by rw [HX.out];exact HALL.out)]),below_tr hB0 (below_tr B1.out HE.out)⟩
  ·have hd1:((n:Int) != 2 * (tiles d:Int))=true:=by simp;omega
   go_wp2_with fail
   go_ret
   exact ⟨ret_bool (by have:=HX.out;simp [stOk,HD.out];omega),below_tr hB0 B1.out⟩
set_option maxHeartbeats 2000000 in
theorem semuStateOk_any (d:Dev) (A:Option Addr) (n c:Nat) (st:List Int) (w:World) (hA:Ints w A n st) (hn:n≤16777216) :
  Calls Tryz.prog 132 #[.agg #[.int .i64 d.W,.int .i64 d.H,.int .i64 d.T,.int .i64 d.R],.slice A n c] w fun e w'=>e = .returned (.bool (stOk d st))∧Below w.heap.size w w':=by
 have hB0:Below w.heap.size w (w.alloc (.cells #[.int .i64 d.W,.int .i64 d.H,.int .i64 d.T,.int .i64 d.R] 25)):=below_new (Below.refl _ _) _
 have HI:=Lib.hid hA
 have hX:=hA.1
 have HX:=Lib.hid hX
 clear hA hX
 go_enter Tryz.func132,Tryz.ntmps132
 go_wp2_with fail
 refine (sdeviceOk_any d _).mono ?_
 rintro e w1 ⟨rfl,b1⟩
 have hs1:=b1.size
 simp only [World.size_alloc] at hs1
 obtain ⟨hcc,hff⟩:=bcell b1
 have B1:=Lib.hid b1
 clear b1
 cases hd:devOk d with
 | false =>
  have HD:=Lib.hid hd
  clear hd
  go_wp2_with fail
  go_ret
  exact ⟨ret_bool (by simp [stOk,HD.out]),below_tr hB0 B1.out⟩
 | true =>
  obtain ⟨hN,hN1,hN2⟩:=tiles_eq hd
  obtain ⟨hw1,hw2,_⟩:=devOk_bd hd
  have hN':2 * d.W * d.H=2 * (tiles d:Int):=by rw [Int.mul_assoc,hN]
  have HD:=Lib.hid hd
  clear hd
  by_cases hlen:n=2 * tiles d
  ·subst hlen
   obtain ⟨hx1,hA⟩:=HI.out.below (below_tr hB0 B1.out)
   clear hx1
   clear HI
   generalize hT:tiles d=N at *
   have HT:=Lib.hid hT
   have HN:=Lib.hid hN
   clear hT hN
   go_wp2_with fail
   go_loopw [5] (fun i wr=>∃k:Nat,k≤2 * N∧i = .int .i64 k∧Below w1.heap.size w1 wr∧∀j,j<k→inR (st[j]?.getD 0) 0 (mostOf d j)=true) (fun i _=>2 * N - (intOf i).toNat)
   case atStart=>exact ⟨0,Nat.zero_le _,rfl,Below.refl _ _,by intro j hj;omega⟩
   case round =>
    obtain ⟨k,hk,rfl,hbe,hall⟩:=hrel
    clear hcc hff
    obtain ⟨hcc,hff⟩:=bcell (below_tr B1.out hbe)
    have HE:=Lib.hid hbe
    have HALL:=Lib.hid hall
    clear hall
    by_cases hlt:k<2 * N
    ·obtain ⟨b,o,rfl,hb,hc⟩:=hA (by omega)
     have hck:=hc k hlt
     rw [←hbe.cell (p:=⟨b,o+k,none⟩) hb] at hck
     clear hc hbe
     have hbr:b<wr.heap.size:=Nat.lt_of_lt_of_le hb HE.out.size
     have hkd:(k:Int) / 2=((k / 2:Nat):Int):=by omega
     have HKD:=Lib.hid hkd
     clear hkd
     go_wp2_with fail
     refine (stileKind_any d _ _ (by omega)).mono ?_
     rintro e w2 ⟨rfl,b2⟩
     rw [HKD.out,tileKind_in HD.out (by omega) (by rw [HN.out];omega)]
     have hck2:=(b2.cell (p:=⟨b,o+k,none⟩) hbr).trans hck
     have E2:=Lib.hid (below_tr HE.out b2)
     clear b2 hck hcc hff
     obtain ⟨hcc,hff⟩:=bcell (below_tr B1.out E2.out)
     have HMB:Hid (inR (st[k]?.getD 0) 0 (mostOf d k)=false→stOk d st=false):=fun h=>stOk_bad (by rw [HX.out];exact hlt) h
     have HMG:Hid (inR (st[k]?.getD 0) 0 (mostOf d k)=true→∀j,j<k+1→inR (st[j]?.getD 0) 0 (mostOf d j)=true):=fun h=>all_succ HALL.out h
     generalize st[k]?.getD 0=x at *
     have hM:mostOf d k=if kindOf d ((k / 2:Nat):Int)=1 then 1 else if kindOf d ((k / 2:Nat):Int)=2∧k % 2=0 then 31 else 0:=rfl
     have hk3:=kindOf_bd d ((k / 2:Nat):Int)
     generalize kindOf d ((k / 2:Nat):Int)=kd at *
     have HM:=Lib.hid hM
     clear hM
     rcases hk3 with h|h|h
     ·subst h
      have hm:mostOf d k=0:=by rw [HM.out];simp
      rw [hm] at HMB HMG
      clear HM hm
      cases hin:inR x 0 0 with
      | false =>
       have HF:=Lib.hid (HMB.out hin)
       have hcl:∀w,Calls Tryz.prog 119 #[.int .i64 x,.int .i64 0,.int .i64 0] w fun e w'=>e = .returned (.bool false)∧w=w':=fun w=>by
        have:=l01In_any x 0 0 w
        rwa [hin] at this
       have HCL:=Lib.hid hcl
       clear hcl hin HMB HMG
       go_wp2_with (go_at_call 119;refine (HCL.out _).mono ?_;rintro e w' ⟨rfl,rfl⟩)
       go_ret
       exact ⟨ret_bool (by rw [HF.out]),below_tr hB0 (below_tr B1.out E2.out)⟩
      | true =>
       have HG:=Lib.hid (HMG.out hin)
       have hcl:∀w,Calls Tryz.prog 119 #[.int .i64 x,.int .i64 0,.int .i64 0] w fun e w'=>e = .returned (.bool true)∧w=w':=fun w=>by
        have:=l01In_any x 0 0 w
        rwa [hin] at this
       have HCL:=Lib.hid hcl
       clear hcl hin HMB HMG
       go_wp2_with (go_at_call 119;refine (HCL.out _).mono ?_;rintro e w' ⟨rfl,rfl⟩)
       go_roundw
       case rel=>exact ⟨k+1,by omega,by go_num,E2.out,HG.out⟩
       case measure=>simp [intOf];omega
     ·subst h
      have hm:mostOf d k=1:=by rw [HM.out];simp
      rw [hm] at HMB HMG
      clear HM hm
      cases hin:inR x 0 1 with
      | false =>
       have HF:=Lib.hid (HMB.out hin)
       have hcl:∀w,Calls Tryz.prog 119 #[.int .i64 x,.int .i64 0,.int .i64 1] w fun e w'=>e = .returned (.bool false)∧w=w':=fun w=>by
        have:=l01In_any x 0 1 w
        rwa [hin] at this
       have HCL:=Lib.hid hcl
       clear hcl hin HMB HMG
       go_wp2_with (go_at_call 119;refine (HCL.out _).mono ?_;rintro e w' ⟨rfl,rfl⟩)
       go_ret
       exact ⟨ret_bool (by rw [HF.out]),below_tr hB0 (below_tr B1.out E2.out)⟩
      | true =>
       have HG:=Lib.hid (HMG.out hin)
       have hcl:∀w,Calls Tryz.prog 119 #[.int .i64 x,.int .i64 0,.int .i64 1] w fun e w'=>e = .returned (.bool true)∧w=w':=fun w=>by
        have:=l01In_any x 0 1 w
        rwa [hin] at this
       have HCL:=Lib.hid hcl
       clear hcl hin HMB HMG
       go_wp2_with (go_at_call 119;refine (HCL.out _).mono ?_;rintro e w' ⟨rfl,rfl⟩)
       go_roundw
       case rel=>exact ⟨k+1,by omega,by go_num,E2.out,HG.out⟩
       case measure=>simp [intOf];omega
     ·subst h
      by_cases hp:k % 2=0
      ·have hp1:((k:Int) % 2==0)=true:=by simp;omega
       have hp2:(k:Int) % 2=0:=by omega
       have hm:mostOf d k=31:=by rw [HM.out];simp [hp]
       rw [hm] at HMB HMG
       clear HM hm
       cases hin:inR x 0 31 with
       | false =>
        have HF:=Lib.hid (HMB.out hin)
        have hcl:∀w,Calls Tryz.prog 119 #[.int .i64 x,.int .i64 0,.int .i64 31] w fun e w'=>e = .returned (.bool false)∧w=w':=fun w=>by
         have:=l01In_any x 0 31 w
         rwa [hin] at this
        have HCL:=Lib.hid hcl
        clear hcl hin HMB HMG
        go_wp2_with (go_at_call 119;refine (HCL.out _).mono ?_;rintro e w' ⟨rfl,rfl⟩)
        go_ret
        exact ⟨ret_bool (by rw [HF.out]),below_tr hB0 (below_tr B1.out E2.out)⟩
       | true =>
        have HG:=Lib.hid (HMG.out hin)
        have hcl:∀w,Calls Tryz.prog 119 #[.int .i64 x,.int .i64 0,.int .i64 31] w fun e w'=>e = .returned (.bool true)∧w=w':=fun w=>by
         have:=l01In_any x 0 31 w
         rwa [hin] at this
        have HCL:=Lib.hid hcl
        clear hcl hin HMB HMG
        go_wp2_with (go_at_call 119;refine (HCL.out _).mono ?_;rintro e w' ⟨rfl,rfl⟩)
        go_roundw
        case rel=>exact ⟨k+1,by omega,by go_num,E2.out,HG.out⟩
        case measure=>simp [intOf];omega
      ·have hp1:((k:Int) % 2==0)=false:=by simp;omega
       have hp2:(k:Int) % 2=1:=by omega
       have hm:mostOf d k=0:=by rw [HM.out];simp [hp]
       rw [hm] at HMB HMG
       clear HM hm
       cases hin:inR x 0 0 with
       | false =>
        have HF:=Lib.hid (HMB.out hin)
        have hcl:∀w,Calls Tryz.prog 119 #[.int .i64 x,.int .i64 0,.int .i64 0] w fun e w'=>e = .returned (.bool false)∧w=w':=fun w=>by
         have:=l01In_any x 0 0 w
         rwa [hin] at this
        have HCL:=Lib.hid hcl
        clear hcl hin HMB HMG
        go_wp2_with (go_at_call 119;refine (HCL.out _).mono ?_;rintro e w' ⟨rfl,rfl⟩)
        go_ret
        exact ⟨ret_bool (by rw [HF.out]),below_tr hB0 (below_tr B1.out E2.out)⟩
       | true =>
        have HG:=Lib.hid (HMG.out hin)
        have hcl:∀w,Calls Tryz.prog 119 #[.int .i64 x,.int .i64 0,.int .i64 0] w fun e w'=>e = .returned (.bool true)∧w=w':=fun w=>by
         have:=l01In_any x 0 0 w
         rwa [hin] at this
        have HCL:=Lib.hid hcl
        clear hcl hin HMB HMG
        go_wp2_with (go_at_call 119;refine (HCL.out _).mono ?_;rintro e w' ⟨rfl,rfl⟩)
        go_roundw
        case rel=>exact ⟨k+1,by omega,by go_num,E2.out,HG.out⟩
        case measure=>simp [intOf];omega
    ·have hkn:k=2 * N:=by omega
     subst hkn
     go_wp2
     go_ret
     exact ⟨ret_bool (by rw [stOk_good HD.out (by rw [HX.out,HT.out]) (by rw [HX.out];exact HALL.out)]),below_tr hB0 (below_tr B1.out HE.out)⟩
  ·have hd1:((n:Int) != 2 * (tiles d:Int))=true:=by simp;omega
   go_wp2_with fail
   go_ret
   exact ⟨ret_bool (by have:=HX.out;simp [stOk,HD.out];omega),below_tr hB0 B1.out⟩
end Go.Proofs.YtbnfdhidgdfbeaaGreat
