/- The kinds of tiles and the states of a device: the program's answers and the reference's are one. -/
import Derived.Test.YtignkfhdkcgkgaaGreatCopies
namespace Go.Proofs.YtignkfhdkcgkgaaGreat
set_option maxHeartbeats 2000000
set_option maxRecDepth 100000
open Go.RowKit
def ah (d:Dev) (t:Int):Int :=
 if t % d.W=0∨t % d.W=d.W - 1∨t / d.W=0∨t / d.W=d.H - 1 then 0 else if t % d.W=d.R then 2 else 1
theorem df (d:Dev) (t:Int):ah d t=0∨ah d t=1∨ah d t=2:=by
 unfold ah
 split
 ·simp
 ·split <;> simp
def iE (d:Dev) (t:Int):Int:=if bO d=true/\0<=t/\t<d.W * d.H then ah d t else -1
theorem iC (d:Dev) (t:Int) (w:World) (hd:bO d=true) (ht:0<=t) (ht':t<=1099511627776) :
  Calls Tryz.prog 73 #[.agg #[.int .i64 d.W,.int .i64 d.H,.int .i64 d.T,.int .i64 d.R],.int .i64 t] w fun e w'=>e = .returned (.int .i64 (ah d t))/\Below w.heap.size w w':=by
 obtain ⟨hw1,hw2,hh1,hh2,_⟩:=aY hd
 have e0:¬d.W=0:=by omega
 have e1:t.tmod d.W=t % d.W:=Int.tmod_eq_emod_of_nonneg ht
 have e2:IntKind.i64.wrap (t.tdiv d.W)=t / d.W:=IntWalk.i64_quo _ _ ⟨ht,by omega,by omega⟩
 have hr0:0<=t % d.W:=Int.emod_nonneg _ e0
 have hr1:t % d.W<d.W:=Int.emod_lt_of_pos _ (by omega)
 clear hd
 go_enter Tryz.func73,Tryz.ntmps73
 go_wp2_with fail
 go_quiet (fail)
 clear e1 e2
 go_wp2_with fail
 all_goals (go_ret;exact ⟨aP (by (try simp only [beq_iff_eq,beq_eq_false_iff_ne,ne_eq] at *);first|(rw [ah,if_pos (by omega)])|(rw [ah,if_neg (by omega),if_pos (by omega)])|(rw [ah,if_neg (by omega),if_neg (by omega)])),aZ (aB (Below.refl _ _) _) _⟩)
theorem iL (d:Dev) (t:Int) (w:World) (ht':t<=1099511627776) :
  Calls Tryz.prog 68 #[.agg #[.int .i64 d.W,.int .i64 d.H,.int .i64 d.T,.int .i64 d.R],.int .i64 t] w fun e w'=>e = .returned (.int .i64 (iE d t))/\Below w.heap.size w w':=by
 go_enter Tryz.func68,Tryz.ntmps68
 go_wp2_with fail
 refine (dK d _).mono ?_
 rintro e w1 ⟨rfl,b1⟩
 obtain ⟨hcc,hff⟩:=aO b1
 have B1:=Hd (aA (aB (Below.refl _ _) _) b1)
 clear b1
 cases hd:bO d with
 | false =>
  have HD:=Hd hd
  clear hd
  go_wp2_with fail
  go_ret
  exact ⟨aP (by rw [iE,if_neg (by rw [HD.out];simp)]),B1.out⟩
 | true =>
  obtain ⟨hN,hN1,hN2⟩:=bT hd
  obtain ⟨hw1,hw2,hh1,hh2,_⟩:=aY hd
  have HD:=Hd hd
  have HN:=Hd hN
  clear hd
  by_cases h0:t<0
  ·go_wp2_with fail
   go_ret
   exact ⟨aP (by rw [iE,if_neg (by omega)]),B1.out⟩
  ·by_cases h1:t≥(tiles d:Int)
   ·go_wp2_with fail
    go_ret
    exact ⟨aP (by rw [iE,if_neg (by rw [HN.out];omega)]),B1.out⟩
   ·have e0:¬d.W=0:=by omega
    have hr0:0<=t % d.W:=Int.emod_nonneg _ e0
    have hr1:t % d.W<d.W:=Int.emod_lt_of_pos _ (by omega)
    have hk:iE d t=ah d t:=by rw [iE,if_pos ⟨HD.out,by omega,by rw [HN.out];omega⟩]
    have HK:=Hd hk
    clear hk
    go_wp2_with fail
    all_goals (go_ret;exact ⟨aP (by rw [HK.out];(try simp only [beq_iff_eq,beq_eq_false_iff_ne,ne_eq] at *);first|(rw [ah,if_pos (by omega)])|(rw [ah,if_neg (by omega),if_pos (by omega)])|(rw [ah,if_neg (by omega),if_neg (by omega)])),B1.out⟩)
theorem nA {d:Dev} {t:Int} (hd:bO d=true) (h0:0<=t) (h1:t<d.W * d.H):iE d t=ah d t:=by rw [iE,if_pos ⟨hd,h0,h1⟩]
def eQ (d:Dev) (i:Nat):Int:=if ah d ((i / 2:Nat):Int)=1 then 1 else if ah d ((i / 2:Nat):Int)=2/\i % 2=0 then 31 else 0
def mM (d:Dev) (st:List Int):Bool:=bO d && (decide (st.length=2 * tiles d) && (List.range st.length).all fun i=>inR (st[i]?.getD 0) 0 (eQ d i))
theorem Bz {d:Dev} {st:List Int} {k:Nat} (hk:k<st.length) (h:inR (st[k]?.getD 0) 0 (eQ d k)=false):mM d st=false:=by
 cases hs:mM d st with
 | false=>rfl
 | true =>
  simp only [mM,Bool.and_eq_true,List.all_eq_true,List.mem_range] at hs
  rw [hs.2.2 k hk] at h
  cases h
theorem yJ {d:Dev} {st:List Int} (hd:bO d=true) (hl:st.length=2 * tiles d) (h:∀j,j<st.length→inR (st[j]?.getD 0) 0 (eQ d j)=true):mM d st=true:=by
 simp only [mM,Bool.and_eq_true,List.all_eq_true,List.mem_range,decide_eq_true_eq]
 exact ⟨hd,hl,h⟩
theorem wX (d:Dev) (A:Option Addr) (n c:Nat) (st:List Int) (w:World) (hA:bH w A n st) (hn:n<=16777216) :
  Calls Tryz.prog 41 #[.agg #[.int .i64 d.W,.int .i64 d.H,.int .i64 d.T,.int .i64 d.R],.slice A n c] w fun e w'=>e = .returned (.bool (mM d st))/\Below w.heap.size w w':=by
 have hB0:Below w.heap.size w (w.alloc (.cells #[.int .i64 d.W,.int .i64 d.H,.int .i64 d.T,.int .i64 d.R] 25)):=aB (Below.refl _ _) _
 have HI:=Hd hA
 have hX:=hA.1
 have HX:=Hd hX
 clear hA hX
 go_enter Tryz.func41,Tryz.ntmps41
 go_wp2_with fail
 refine (fB d _).mono ?_
 rintro e w1 ⟨rfl,b1⟩
 have hs1:=b1.size
 simp only [World.size_alloc] at hs1
 obtain ⟨hcc,hff⟩:=aO b1
 have B1:=Hd b1
 clear b1
 cases hd:bO d with
 | false =>
  have HD:=Hd hd
  clear hd
  go_wp2_with fail
  go_ret
  exact ⟨aH (by simp [mM,HD.out]),aA hB0 B1.out⟩
 | true =>
  obtain ⟨hN,hN1,hN2⟩:=bT hd
  obtain ⟨hw1,hw2,_⟩:=aY hd
  have hN':2 * d.W * d.H=2 * (tiles d:Int):=by rw [Int.mul_assoc,hN]
  have HD:=Hd hd
  clear hd
  by_cases hlen:n=2 * tiles d
  ·subst hlen
   obtain ⟨hx1,hA⟩:=HI.out.below (aA hB0 B1.out)
   clear hx1
   clear HI
   generalize hT:tiles d=N at *
   have HT:=Hd hT
   have HN:=Hd hN
   clear hT hN
   go_wp2_with fail
   go_loopw [24] (fun i wr=>∃k:Nat,k<=2 * N/\i = .int .i64 k/\Below w1.heap.size w1 wr/\∀j,j<k→inR (st[j]?.getD 0) 0 (eQ d j)=true) (fun i _=>2 * N - (intOf i).toNat)
   case atStart=>exact ⟨0,Nat.zero_le _,rfl,Below.refl _ _,by intro j hj;omega⟩
   case round =>
    obtain ⟨k,hk,rfl,hbe,hall⟩:=hrel
    clear hcc hff
    obtain ⟨hcc,hff⟩:=aO (aA B1.out hbe)
    have HE:=Hd hbe
    have HALL:=Hd hall
    clear hall
    by_cases hlt:k<2 * N
    ·obtain ⟨b,o,rfl,hb,hc⟩:=hA (by omega)
     have hck:=hc k hlt
     rw [←hbe.cell (p:=⟨b,o+k,none⟩) hb] at hck
     clear hc hbe
     have hbr:b<wr.heap.size:=Nat.lt_of_lt_of_le hb HE.out.size
     have hkd:(k:Int) / 2=((k / 2:Nat):Int):=by omega
     have HKD:=Hd hkd
     clear hkd
     go_wp2_with fail
     refine (iC d _ _ HD.out (by omega) (by omega)).mono ?_
     rintro e w2 ⟨rfl,b2⟩
     rw [HKD.out]
     have hck2:=(b2.cell (p:=⟨b,o+k,none⟩) hbr).trans hck
     have E2:=Hd (aA HE.out b2)
     clear b2 hck hcc hff
     obtain ⟨hcc,hff⟩:=aO (aA B1.out E2.out)
     have HMB:Hid (inR (st[k]?.getD 0) 0 (eQ d k)=false→mM d st=false):=fun h=>Bz (by rw [HX.out];exact hlt) h
     have HMG:Hid (inR (st[k]?.getD 0) 0 (eQ d k)=true→∀j,j<k+1→inR (st[j]?.getD 0) 0 (eQ d j)=true):=fun h=>gF HALL.out h
     generalize st[k]?.getD 0=x at *
     have hM:eQ d k=if ah d ((k / 2:Nat):Int)=1 then 1 else if ah d ((k / 2:Nat):Int)=2/\k % 2=0 then 31 else 0:=rfl
     have hk3:=df d ((k / 2:Nat):Int)
     generalize ah d ((k / 2:Nat):Int)=kd at *
     have HM:=Hd hM
     clear hM
     rcases hk3 with h|h|h
     ·subst h
      have hm:eQ d k=0:=by rw [HM.out];simp
      rw [hm] at HMB HMG
      clear HM hm
      cases hin:inR x 0 0 with
      | false =>
       have HF:=Hd (HMB.out hin)
       have hcl:∀w,Calls Tryz.prog 116 #[.int .i64 x,.int .i64 0,.int .i64 0] w fun e w'=>e = .returned (.bool false)/\w=w':=fun w=>by
        have:=aN x 0 0 w
        rwa [hin] at this
       have HCL:=Hd hcl
       clear hcl hin HMB HMG
       go_wp2_with (go_at_call 116;refine (HCL.out _).mono ?_;rintro e w' ⟨rfl,rfl⟩)
       go_ret
       exact ⟨aH (by rw [HF.out]),aA hB0 (aA B1.out E2.out)⟩
      | true =>
       have HG:=Hd (HMG.out hin)
       have hcl:∀w,Calls Tryz.prog 116 #[.int .i64 x,.int .i64 0,.int .i64 0] w fun e w'=>e = .returned (.bool true)/\w=w':=fun w=>by
        have:=aN x 0 0 w
        rwa [hin] at this
       have HCL:=Hd hcl
       clear hcl hin HMB HMG
       go_wp2_with (go_at_call 116;refine (HCL.out _).mono ?_;rintro e w' ⟨rfl,rfl⟩)
       go_roundw
       case rel=>exact ⟨k+1,by omega,by go_num,E2.out,HG.out⟩
       case measure=>simp [intOf];omega
     ·subst h
      have hm:eQ d k=1:=by rw [HM.out];simp
      rw [hm] at HMB HMG
      clear HM hm
      cases hin:inR x 0 1 with
      | false =>
       have HF:=Hd (HMB.out hin)
       have hcl:∀w,Calls Tryz.prog 116 #[.int .i64 x,.int .i64 0,.int .i64 1] w fun e w'=>e = .returned (.bool false)/\w=w':=fun w=>by
        have:=aN x 0 1 w
        rwa [hin] at this
       have HCL:=Hd hcl
       clear hcl hin HMB HMG
       go_wp2_with (go_at_call 116;refine (HCL.out _).mono ?_;rintro e w' ⟨rfl,rfl⟩)
       go_ret
       exact ⟨aH (by rw [HF.out]),aA hB0 (aA B1.out E2.out)⟩
      | true =>
       have HG:=Hd (HMG.out hin)
       have hcl:∀w,Calls Tryz.prog 116 #[.int .i64 x,.int .i64 0,.int .i64 1] w fun e w'=>e = .returned (.bool true)/\w=w':=fun w=>by
        have:=aN x 0 1 w
        rwa [hin] at this
       have HCL:=Hd hcl
       clear hcl hin HMB HMG
       go_wp2_with (go_at_call 116;refine (HCL.out _).mono ?_;rintro e w' ⟨rfl,rfl⟩)
       go_roundw
       case rel=>exact ⟨k+1,by omega,by go_num,E2.out,HG.out⟩
       case measure=>simp [intOf];omega
     ·subst h
      by_cases hp:k % 2=0
      ·have hp1:((k:Int) % 2==0)=true:=by simp;omega
       have hm:eQ d k=31:=by rw [HM.out];simp [hp]
       rw [hm] at HMB HMG
       clear HM hm
       cases hin:inR x 0 31 with
       | false =>
        have HF:=Hd (HMB.out hin)
        have hcl:∀w,Calls Tryz.prog 116 #[.int .i64 x,.int .i64 0,.int .i64 31] w fun e w'=>e = .returned (.bool false)/\w=w':=fun w=>by
         have:=aN x 0 31 w
         rwa [hin] at this
        have HCL:=Hd hcl
        clear hcl hin HMB HMG
        go_wp2_with (go_at_call 116;refine (HCL.out _).mono ?_;rintro e w' ⟨rfl,rfl⟩)
        go_ret
        exact ⟨aH (by rw [HF.out]),aA hB0 (aA B1.out E2.out)⟩
       | true =>
        have HG:=Hd (HMG.out hin)
        have hcl:∀w,Calls Tryz.prog 116 #[.int .i64 x,.int .i64 0,.int .i64 31] w fun e w'=>e = .returned (.bool true)/\w=w':=fun w=>by
         have:=aN x 0 31 w
         rwa [hin] at this
        have HCL:=Hd hcl
        clear hcl hin HMB HMG
        go_wp2_with (go_at_call 116;refine (HCL.out _).mono ?_;rintro e w' ⟨rfl,rfl⟩)
        go_roundw
        case rel=>exact ⟨k+1,by omega,by go_num,E2.out,HG.out⟩
        case measure=>simp [intOf];omega
      ·have hp1:((k:Int) % 2==0)=false:=by simp;omega
       have hm:eQ d k=0:=by rw [HM.out];simp [hp]
       rw [hm] at HMB HMG
       clear HM hm
       cases hin:inR x 0 0 with
       | false =>
        have HF:=Hd (HMB.out hin)
        have hcl:∀w,Calls Tryz.prog 116 #[.int .i64 x,.int .i64 0,.int .i64 0] w fun e w'=>e = .returned (.bool false)/\w=w':=fun w=>by
         have:=aN x 0 0 w
         rwa [hin] at this
        have HCL:=Hd hcl
        clear hcl hin HMB HMG
        go_wp2_with (go_at_call 116;refine (HCL.out _).mono ?_;rintro e w' ⟨rfl,rfl⟩)
        go_ret
        exact ⟨aH (by rw [HF.out]),aA hB0 (aA B1.out E2.out)⟩
       | true =>
        have HG:=Hd (HMG.out hin)
        have hcl:∀w,Calls Tryz.prog 116 #[.int .i64 x,.int .i64 0,.int .i64 0] w fun e w'=>e = .returned (.bool true)/\w=w':=fun w=>by
         have:=aN x 0 0 w
         rwa [hin] at this
        have HCL:=Hd hcl
        clear hcl hin HMB HMG
        go_wp2_with (go_at_call 116;refine (HCL.out _).mono ?_;rintro e w' ⟨rfl,rfl⟩)
        go_roundw
        case rel=>exact ⟨k+1,by omega,by go_num,E2.out,HG.out⟩
        case measure=>simp [intOf];omega
    ·have hkn:k=2 * N:=by omega
     subst hkn
     go_wp2
     go_ret
     exact ⟨aH (by rw [yJ HD.out (by rw [HX.out,HT.out]) (by rw [HX.out];exact HALL.out)]),aA hB0 (aA B1.out HE.out)⟩
  ·have hd1:((n:Int) != 2 * (tiles d:Int))=true:=by simp;omega
   go_wp2_with fail
   go_ret
   exact ⟨aH (by have:=HX.out;simp [mM,HD.out];omega),aA hB0 B1.out⟩
theorem vD (d:Dev) (A:Option Addr) (n c:Nat) (st:List Int) (w:World) (hA:bH w A n st) (hn:n<=16777216) :
  Calls Tryz.prog 121 #[.agg #[.int .i64 d.W,.int .i64 d.H,.int .i64 d.T,.int .i64 d.R],.slice A n c] w fun e w'=>e = .returned (.bool (mM d st))/\Below w.heap.size w w':=by
 have hB0:Below w.heap.size w (w.alloc (.cells #[.int .i64 d.W,.int .i64 d.H,.int .i64 d.T,.int .i64 d.R] 25)):=aB (Below.refl _ _) _
 have HI:=Hd hA
 have hX:=hA.1
 have HX:=Hd hX
 clear hA hX
 go_enter Tryz.func121,Tryz.ntmps121
 go_wp2_with fail
 refine (dK d _).mono ?_
 rintro e w1 ⟨rfl,b1⟩
 have hs1:=b1.size
 simp only [World.size_alloc] at hs1
 obtain ⟨hcc,hff⟩:=aO b1
 have B1:=Hd b1
 clear b1
 cases hd:bO d with
 | false =>
  have HD:=Hd hd
  clear hd
  go_wp2_with fail
  go_ret
  exact ⟨aH (by simp [mM,HD.out]),aA hB0 B1.out⟩
 | true =>
  obtain ⟨hN,hN1,hN2⟩:=bT hd
  obtain ⟨hw1,hw2,_⟩:=aY hd
  have hN':2 * d.W * d.H=2 * (tiles d:Int):=by rw [Int.mul_assoc,hN]
  have HD:=Hd hd
  clear hd
  by_cases hlen:n=2 * tiles d
  ·subst hlen
   obtain ⟨hx1,hA⟩:=HI.out.below (aA hB0 B1.out)
   clear hx1
   clear HI
   generalize hT:tiles d=N at *
   have HT:=Hd hT
   have HN:=Hd hN
   clear hT hN
   go_wp2_with fail
   go_loopw [5] (fun i wr=>∃k:Nat,k<=2 * N/\i = .int .i64 k/\Below w1.heap.size w1 wr/\∀j,j<k→inR (st[j]?.getD 0) 0 (eQ d j)=true) (fun i _=>2 * N - (intOf i).toNat)
   case atStart=>exact ⟨0,Nat.zero_le _,rfl,Below.refl _ _,by intro j hj;omega⟩
   case round =>
    obtain ⟨k,hk,rfl,hbe,hall⟩:=hrel
    clear hcc hff
    obtain ⟨hcc,hff⟩:=aO (aA B1.out hbe)
    have HE:=Hd hbe
    have HALL:=Hd hall
    clear hall
    by_cases hlt:k<2 * N
    ·obtain ⟨b,o,rfl,hb,hc⟩:=hA (by omega)
     have hck:=hc k hlt
     rw [←hbe.cell (p:=⟨b,o+k,none⟩) hb] at hck
     clear hc hbe
     have hbr:b<wr.heap.size:=Nat.lt_of_lt_of_le hb HE.out.size
     have hkd:(k:Int) / 2=((k / 2:Nat):Int):=by omega
     have HKD:=Hd hkd
     clear hkd
     go_wp2_with fail
     refine (iL d _ _ (by omega)).mono ?_
     rintro e w2 ⟨rfl,b2⟩
     rw [HKD.out,nA HD.out (by omega) (by rw [HN.out];omega)]
     have hck2:=(b2.cell (p:=⟨b,o+k,none⟩) hbr).trans hck
     have E2:=Hd (aA HE.out b2)
     clear b2 hck hcc hff
     obtain ⟨hcc,hff⟩:=aO (aA B1.out E2.out)
     have HMB:Hid (inR (st[k]?.getD 0) 0 (eQ d k)=false→mM d st=false):=fun h=>Bz (by rw [HX.out];exact hlt) h
     have HMG:Hid (inR (st[k]?.getD 0) 0 (eQ d k)=true→∀j,j<k+1→inR (st[j]?.getD 0) 0 (eQ d j)=true):=fun h=>gF HALL.out h
     generalize st[k]?.getD 0=x at *
     have hM:eQ d k=if ah d ((k / 2:Nat):Int)=1 then 1 else if ah d ((k / 2:Nat):Int)=2/\k % 2=0 then 31 else 0:=rfl
     have hk3:=df d ((k / 2:Nat):Int)
     generalize ah d ((k / 2:Nat):Int)=kd at *
     have HM:=Hd hM
     clear hM
     rcases hk3 with h|h|h
     ·subst h
      have hm:eQ d k=0:=by rw [HM.out];simp
      rw [hm] at HMB HMG
      clear HM hm
      cases hin:inR x 0 0 with
      | false =>
       have HF:=Hd (HMB.out hin)
       have hcl:∀w,Calls Tryz.prog 175 #[.int .i64 x,.int .i64 0,.int .i64 0] w fun e w'=>e = .returned (.bool false)/\w=w':=fun w=>by
        have:=aW x 0 0 w
        rwa [hin] at this
       have HCL:=Hd hcl
       clear hcl hin HMB HMG
       go_wp2_with (go_at_call 175;refine (HCL.out _).mono ?_;rintro e w' ⟨rfl,rfl⟩)
       go_ret
       exact ⟨aH (by rw [HF.out]),aA hB0 (aA B1.out E2.out)⟩
      | true =>
       have HG:=Hd (HMG.out hin)
       have hcl:∀w,Calls Tryz.prog 175 #[.int .i64 x,.int .i64 0,.int .i64 0] w fun e w'=>e = .returned (.bool true)/\w=w':=fun w=>by
        have:=aW x 0 0 w
        rwa [hin] at this
       have HCL:=Hd hcl
       clear hcl hin HMB HMG
       go_wp2_with (go_at_call 175;refine (HCL.out _).mono ?_;rintro e w' ⟨rfl,rfl⟩)
       go_roundw
       case rel=>exact ⟨k+1,by omega,by go_num,E2.out,HG.out⟩
       case measure=>simp [intOf];omega
     ·subst h
      have hm:eQ d k=1:=by rw [HM.out];simp
      rw [hm] at HMB HMG
      clear HM hm
      cases hin:inR x 0 1 with
      | false =>
       have HF:=Hd (HMB.out hin)
       have hcl:∀w,Calls Tryz.prog 175 #[.int .i64 x,.int .i64 0,.int .i64 1] w fun e w'=>e = .returned (.bool false)/\w=w':=fun w=>by
        have:=aW x 0 1 w
        rwa [hin] at this
       have HCL:=Hd hcl
       clear hcl hin HMB HMG
       go_wp2_with (go_at_call 175;refine (HCL.out _).mono ?_;rintro e w' ⟨rfl,rfl⟩)
       go_ret
       exact ⟨aH (by rw [HF.out]),aA hB0 (aA B1.out E2.out)⟩
      | true =>
       have HG:=Hd (HMG.out hin)
       have hcl:∀w,Calls Tryz.prog 175 #[.int .i64 x,.int .i64 0,.int .i64 1] w fun e w'=>e = .returned (.bool true)/\w=w':=fun w=>by
        have:=aW x 0 1 w
        rwa [hin] at this
       have HCL:=Hd hcl
       clear hcl hin HMB HMG
       go_wp2_with (go_at_call 175;refine (HCL.out _).mono ?_;rintro e w' ⟨rfl,rfl⟩)
       go_roundw
       case rel=>exact ⟨k+1,by omega,by go_num,E2.out,HG.out⟩
       case measure=>simp [intOf];omega
     ·subst h
      by_cases hp:k % 2=0
      ·have hp1:((k:Int) % 2==0)=true:=by simp;omega
       have hp2:(k:Int) % 2=0:=by omega
       have hm:eQ d k=31:=by rw [HM.out];simp [hp]
       rw [hm] at HMB HMG
       clear HM hm
       cases hin:inR x 0 31 with
       | false =>
        have HF:=Hd (HMB.out hin)
        have hcl:∀w,Calls Tryz.prog 175 #[.int .i64 x,.int .i64 0,.int .i64 31] w fun e w'=>e = .returned (.bool false)/\w=w':=fun w=>by
         have:=aW x 0 31 w
         rwa [hin] at this
        have HCL:=Hd hcl
        clear hcl hin HMB HMG
        go_wp2_with (go_at_call 175;refine (HCL.out _).mono ?_;rintro e w' ⟨rfl,rfl⟩)
        go_ret
        exact ⟨aH (by rw [HF.out]),aA hB0 (aA B1.out E2.out)⟩
       | true =>
        have HG:=Hd (HMG.out hin)
        have hcl:∀w,Calls Tryz.prog 175 #[.int .i64 x,.int .i64 0,.int .i64 31] w fun e w'=>e = .returned (.bool true)/\w=w':=fun w=>by
         have:=aW x 0 31 w
         rwa [hin] at this
        have HCL:=Hd hcl
        clear hcl hin HMB HMG
        go_wp2_with (go_at_call 175;refine (HCL.out _).mono ?_;rintro e w' ⟨rfl,rfl⟩)
        go_roundw
        case rel=>exact ⟨k+1,by omega,by go_num,E2.out,HG.out⟩
        case measure=>simp [intOf];omega
      ·have hp1:((k:Int) % 2==0)=false:=by simp;omega
       have hp2:(k:Int) % 2=1:=by omega
       have hm:eQ d k=0:=by rw [HM.out];simp [hp]
       rw [hm] at HMB HMG
       clear HM hm
       cases hin:inR x 0 0 with
       | false =>
        have HF:=Hd (HMB.out hin)
        have hcl:∀w,Calls Tryz.prog 175 #[.int .i64 x,.int .i64 0,.int .i64 0] w fun e w'=>e = .returned (.bool false)/\w=w':=fun w=>by
         have:=aW x 0 0 w
         rwa [hin] at this
        have HCL:=Hd hcl
        clear hcl hin HMB HMG
        go_wp2_with (go_at_call 175;refine (HCL.out _).mono ?_;rintro e w' ⟨rfl,rfl⟩)
        go_ret
        exact ⟨aH (by rw [HF.out]),aA hB0 (aA B1.out E2.out)⟩
       | true =>
        have HG:=Hd (HMG.out hin)
        have hcl:∀w,Calls Tryz.prog 175 #[.int .i64 x,.int .i64 0,.int .i64 0] w fun e w'=>e = .returned (.bool true)/\w=w':=fun w=>by
         have:=aW x 0 0 w
         rwa [hin] at this
        have HCL:=Hd hcl
        clear hcl hin HMB HMG
        go_wp2_with (go_at_call 175;refine (HCL.out _).mono ?_;rintro e w' ⟨rfl,rfl⟩)
        go_roundw
        case rel=>exact ⟨k+1,by omega,by go_num,E2.out,HG.out⟩
        case measure=>simp [intOf];omega
    ·have hkn:k=2 * N:=by omega
     subst hkn
     go_wp2
     go_ret
     exact ⟨aH (by rw [yJ HD.out (by rw [HX.out,HT.out]) (by rw [HX.out];exact HALL.out)]),aA hB0 (aA B1.out HE.out)⟩
  ·have hd1:((n:Int) != 2 * (tiles d:Int))=true:=by simp;omega
   go_wp2_with fail
   go_ret
   exact ⟨aH (by have:=HX.out;simp [mM,HD.out];omega),aA hB0 B1.out⟩
end Go.Proofs.YtignkfhdkcgkgaaGreat
