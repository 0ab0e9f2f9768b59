/- Frames: which are valid: the program's answer and the reference's are one. -/
import Derived.Test.YtignkfhdkcgkgaaGreatCopy
import Derived.Test.YtignkfhdkcgkgaaGreatPads
namespace Go.Proofs.YtignkfhdkcgkgaaGreat
set_option maxHeartbeats 1000000
set_option maxRecDepth 100000
open Go.RowKit
def fwI (d:Dev):Int:=(5 * (5+4 * d.T)+67+15) / 16
def ku (ws:List Int) (most:Int):Bool:=(List.range ws.length).all fun i=>inR (ws[i]?.getD 0) 0 most
theorem vP {ws:List Int} {most:Int} {k:Nat} (hk:k<ws.length) (h:inR (ws[k]?.getD 0) 0 most=false):ku ws most=false:=by
 cases hs:ku ws most with
 | false=>rfl
 | true =>
  simp only [ku,List.all_eq_true,List.mem_range] at hs
  rw [hs k hk] at h
  cases h
theorem iZ {ws:List Int} {most:Int} (h:∀j,j<ws.length→inR (ws[j]?.getD 0) 0 most=true):ku ws most=true:=by
 simp only [ku,List.all_eq_true,List.mem_range]
 exact h
theorem lJ {ws:List Int} {most:Int} (h:ku ws most=true) {k:Nat} (hk:k<ws.length):0<=ws[k]?.getD 0/\ws[k]?.getD 0<=most:=by
 simp only [ku,List.all_eq_true,List.mem_range] at h
 exact aa.1 (h k hk)
def bJ (ws:List Int) (count most:Int):Bool:=decide ((ws.length:Int)=count) && ku ws most
def ae (d:Dev) (fs:List (List Int)):Bool:=bL d && (decide (fs.length=tiles d) && (List.range fs.length).all fun j=>bJ (fs[j]?.getD []) (fwI d) 4194303)
theorem ui {d:Dev} {fs:List (List Int)} {k:Nat} (hk:k<fs.length) (h:bJ (fs[k]?.getD []) (fwI d) 4194303=false):ae d fs=false:=by
 cases hs:ae d fs with
 | false=>rfl
 | true =>
  simp only [ae,Bool.and_eq_true,List.all_eq_true,List.mem_range] at hs
  rw [hs.2.2 k hk] at h
  cases h
theorem jd {d:Dev} {fs:List (List Int)} (hd:bL d=true) (hl:fs.length=tiles d) (h:∀j,j<fs.length→bJ (fs[j]?.getD []) (fwI d) 4194303=true):ae d fs=true:=by
 simp only [ae,Bool.and_eq_true,List.all_eq_true,List.mem_range,decide_eq_true_eq]
 exact ⟨hd,hl,h⟩
theorem af {d:Dev} {fs:List (List Int)} (h:ae d fs=true):bL d=true/\fs.length=tiles d/\∀j,j<fs.length→bJ (fs[j]?.getD []) (fwI d) 4194303=true:=by
 simp only [ae,Bool.and_eq_true,List.all_eq_true,List.mem_range,decide_eq_true_eq] at h
 exact ⟨h.1,h.2.1,h.2.2⟩
theorem jG {d:Dev} (h:bL d=true):7<=fwI d/\fwI d<=11:=by
 have:=ah h
 unfold fwI
 omega
theorem uj (d:Dev) (w:World) (h1:1<=d.T) (h2:d.T<=4) :
  Calls Tryz.prog 174 #[.agg #[.int .i64 d.W,.int .i64 d.H,.int .i64 d.T,.int .i64 d.R]] w fun e w'=>e = .returned (.int .i64 (5+4 * d.T))/\Below w.heap.size w w':=by
 go_enter Tryz.func174,Tryz.ntmps174
 go_wp2_with fail
 go_ret
 exact ⟨rfl,aB (Below.refl _ _) _⟩
theorem jK (d:Dev) (w:World) (h1:1<=d.T) (h2:d.T<=4) :
  Calls Tryz.prog 115 #[.agg #[.int .i64 d.W,.int .i64 d.H,.int .i64 d.T,.int .i64 d.R]] w fun e w'=>e = .returned (.int .i64 (fwI d))/\Below w.heap.size w w':=by
 unfold fwI
 go_enter Tryz.func115,Tryz.ntmps115
 go_wp2_with fail
 refine (uj d _ h1 h2).mono ?_
 rintro e w1 ⟨rfl,b1⟩
 go_wp2_with fail
 go_ret
 exact ⟨rfl,aA (aB (Below.refl _ _) _) b1⟩
theorem oG (d:Dev) (w:World) (hd:bL d=true) :
  Calls Tryz.prog 207 #[.agg #[.int .i64 d.W,.int .i64 d.H,.int .i64 d.T,.int .i64 d.R]] w fun e w'=>e = .returned (.int .i64 (5+4 * d.T))/\Below w.heap.size w w':=by
 have hb:=ah hd
 go_enter Tryz.func207,Tryz.ntmps207
 go_wp2_with fail
 refine (dJ d _).mono ?_
 rintro e w1 ⟨rfl,b1⟩
 obtain ⟨hcc,hff⟩:=aQ b1
 go_wp2_with fail
 go_ret
 exact ⟨rfl,aA (aB (Below.refl _ _) _) b1⟩
theorem iq (d:Dev) (w:World) (hd:bL d=true) :
  Calls Tryz.prog 160 #[.agg #[.int .i64 d.W,.int .i64 d.H,.int .i64 d.T,.int .i64 d.R]] w fun e w'=>e = .returned (.int .i64 (fwI d))/\Below w.heap.size w w':=by
 unfold fwI
 have hb:=ah hd
 go_enter Tryz.func160,Tryz.ntmps160
 go_wp2_with fail
 refine (dJ d _).mono ?_
 rintro e w1 ⟨rfl,b1⟩
 obtain ⟨hcc,hff⟩:=aQ b1
 go_wp2_with fail
 refine (oG d _ hd).mono ?_
 rintro e w2 ⟨rfl,b2⟩
 go_wp2_with fail
 go_ret
 exact ⟨rfl,aA (aA (aB (Below.refl _ _) _) b1) b2⟩
theorem ng (A:Option Addr) (n c:Nat) (ws:List Int) (count most:Int) (w:World) (h:bN w A n ws) (hn:n<=1099511627776) :
  Calls Tryz.prog 114 #[.slice A n c,.int .i64 count,.int .i64 most] w fun e w'=>e = .returned (.bool (bJ ws count most))/\Below w.heap.size w w':=by
 obtain ⟨hx,hA⟩:=h
 have HX:=Hd hx
 clear hx
 by_cases hnc:(n:Int)=count
 ·have hd:((n:Int) != count)=false:=by simp [hnc]
  have HN:=Hd hnc
  clear hnc
  go_enter Tryz.func114,Tryz.ntmps114
  go_wp2_with fail
  go_loop [15] (fun i=>∃k:Nat,k<=n/\i = .int .i64 k/\∀j,j<k→inR (ws[j]?.getD 0) 0 most=true) (fun i=>n - (intOf i).toNat)
  case atStart=>exact ⟨0,Nat.zero_le _,rfl,by intro j hj;omega⟩
  case round =>
   obtain ⟨k,hk,rfl,hall⟩:=hrel
   have HALL:=Hd hall
   clear hall
   by_cases hlt:k<n
   ·obtain ⟨b,o,rfl,hb,hc⟩:=hA (by omega)
    have hck:=hc k hlt
    clear hc
    have HB:Hid (inR (ws[k]?.getD 0) 0 most=false→ku ws most=false):=fun h=>vP (by rw [HX.out];exact hlt) h
    have HG:Hid (inR (ws[k]?.getD 0) 0 most=true→∀j,j<k+1→inR (ws[j]?.getD 0) 0 most=true):=fun h=>gZ HALL.out h
    generalize ws[k]?.getD 0=x at *
    cases hin:inR x 0 most with
    | true =>
     have HG':=Hd (HG.out hin)
     clear HG HB
     go_wp2_with (go_at_call 116;refine (aN _ _ _ _).mono ?_;rintro e w' ⟨rfl,rfl⟩)
     go_round
     case rel=>exact ⟨k+1,by omega,by go_num,HG'.out⟩
     case measure=>simp [intOf];omega
    | false =>
     have HB':=Hd (HB.out hin)
     clear HG HB
     go_wp2_with (go_at_call 116;refine (aN _ _ _ _).mono ?_;rintro e w' ⟨rfl,rfl⟩)
     go_ret
     exact ⟨aI (by simp [bJ,HB'.out]),Below.refl _ _⟩
   ·have hkn:k=n:=by omega
    subst hkn
    go_wp2
    go_ret
    exact ⟨aI (by rw [bJ,iZ (by rw [HX.out];exact HALL.out),HX.out];simp [HN.out]),Below.refl _ _⟩
 ·have hd:((n:Int) != count)=true:=by simp [hnc]
  go_enter Tryz.func114,Tryz.ntmps114
  go_wp2_with fail
  go_ret
  exact ⟨aI (by simp [bJ,HX.out,hnc]),Below.refl _ _⟩
theorem gV (d:Dev) (A:Option Addr) (n c:Nat) (fs:List (List Int)) (w:World) (hA:eD w A n fs) (hz:bF fs<=1099511627776) :
  Calls Tryz.prog 40 #[.agg #[.int .i64 d.W,.int .i64 d.H,.int .i64 d.T,.int .i64 d.R],.slice A n c] w fun e w'=>e = .returned (.bool (ae d fs))/\Below w.heap.size w w':=by
 have hB0:Below w.heap.size w (w.alloc (.cells #[.int .i64 d.W,.int .i64 d.H,.int .i64 d.T,.int .i64 d.R] 25)):=aB (Below.refl _ _) _
 have HI:=Hd hA
 have hX:=hA.1
 obtain ⟨hn,hrow⟩:=gU hX hz
 have HX:=Hd hX
 have HR:=Hd hrow
 clear hA hX hrow
 go_enter Tryz.func40,Tryz.ntmps40
 go_wp2_with fail
 refine (fM d _).mono ?_
 rintro e w1 ⟨rfl,b1⟩
 have hs1:=b1.size
 simp only [World.size_alloc] at hs1
 obtain ⟨hcc,hff⟩:=aQ b1
 have B1:=Hd b1
 clear b1
 cases hd:bL d with
 | false =>
  have HD:=Hd hd
  clear hd
  go_wp2_with fail
  go_ret
  exact ⟨aI (by simp [ae,HD.out]),aA hB0 B1.out⟩
 | true =>
  obtain ⟨hN,hN1,hN2⟩:=bO hd
  obtain ⟨hw1,hw2,hh1,hh2,ht1,ht2,_⟩:=ah hd
  have HD:=Hd hd
  clear hd
  by_cases hlen:n=tiles d
  ·subst hlen
   obtain ⟨hx1,hA⟩:=HI.out.below (aA hB0 B1.out)
   clear hx1 HI
   generalize hT:tiles d=N at *
   have HT:=Hd hT
   have HN:=Hd hN
   clear hT
   go_wp2_with fail
   clear hN
   go_loopw [22] (fun i wr=>∃k:Nat,k<=N/\i = .int .i64 k/\Below w1.heap.size w1 wr/\∀j,j<k→bJ (fs[j]?.getD []) (fwI d) 4194303=true) (fun i _=>N - (intOf i).toNat)
   case atStart=>exact ⟨0,Nat.zero_le _,rfl,Below.refl _ _,by intro j hj;omega⟩
   case round =>
    obtain ⟨k,hk,rfl,hbe,hall⟩:=hrel
    clear hcc hff
    obtain ⟨hcc,hff⟩:=aQ (aA B1.out hbe)
    have HE:=Hd hbe
    have HALL:=Hd hall
    clear hall
    by_cases hlt:k<N
    ·obtain ⟨b,o,rfl,hb,hc⟩:=hA (by omega)
     obtain ⟨A1,m1,c1,hck,hI1⟩:=hc k hlt
     rw [←hbe.cell (p:=⟨b,o+k,none⟩) hb] at hck
     have J1:=Hd (hI1.below hbe)
     have hm1:m1<=1099511627776:=by have:=HR.out k;have:=hI1.1;omega
     have HBD:Hid (bJ (fs[k]?.getD []) (fwI d) 4194303=false→ae d fs=false):=fun h=>ui (by rw [HX.out];exact hlt) h
     have HG:Hid (bJ (fs[k]?.getD []) (fwI d) 4194303=true→∀j,j<k+1→bJ (fs[j]?.getD []) (fwI d) 4194303=true):=fun h=>gZ HALL.out h
     clear hc hI1 hbe
     generalize fs[k]?.getD []=f at *
     go_wp2_with fail
     refine (jK d _ ht1 ht2).mono ?_
     rintro e w2 ⟨rfl,b2⟩
     have J2:=Hd (J1.out.below b2)
     have E2:=Hd (aA HE.out b2)
     clear b2
     go_wp2_with fail
     refine (ng A1 m1 c1 f _ _ _ J2.out hm1).mono ?_
     rintro e w3 ⟨rfl,b3⟩
     have E3:=Hd (aA E2.out b3)
     clear b3 hck hcc hff
     obtain ⟨hcc,hff⟩:=aQ (aA B1.out E3.out)
     cases hin:bJ f (fwI d) 4194303 with
     | true =>
      have HG':=Hd (HG.out hin)
      clear HG HBD hin
      go_wp2_with fail
      go_roundw
      case rel=>exact ⟨k+1,by omega,by go_num,E3.out,HG'.out⟩
      case measure=>simp [intOf];omega
     | false =>
      have HB':=Hd (HBD.out hin)
      clear HG HBD hin
      go_wp2_with fail
      go_ret
      exact ⟨aI (by rw [HB'.out]),aA hB0 (aA B1.out E3.out)⟩
    ·have hkn:k=N:=by omega
     subst hkn
     go_wp2
     go_ret
     exact ⟨aI (by rw [jd HD.out (by rw [HX.out,HT.out]) (by rw [HX.out];exact HALL.out)]),aA hB0 (aA B1.out HE.out)⟩
  ·have hd1:((n:Int) != (tiles d:Int))=true:=by simp;omega
   go_wp2_with fail
   go_ret
   exact ⟨aI (by have:=HX.out;simp [ae,HD.out];omega),aA hB0 B1.out⟩
theorem iA (d:Dev) (A:Option Addr) (n c:Nat) (fs:List (List Int)) (w:World) (hA:eD w A n fs) (hz:bF fs<=1099511627776) :
  Calls Tryz.prog 120 #[.agg #[.int .i64 d.W,.int .i64 d.H,.int .i64 d.T,.int .i64 d.R],.slice A n c] w fun e w'=>e = .returned (.bool (ae d fs))/\Below w.heap.size w w':=by
 have hB0:Below w.heap.size w (w.alloc (.cells #[.int .i64 d.W,.int .i64 d.H,.int .i64 d.T,.int .i64 d.R] 25)):=aB (Below.refl _ _) _
 have HI:=Hd hA
 have hX:=hA.1
 obtain ⟨hn,hrow⟩:=gU hX hz
 have HX:=Hd hX
 have HR:=Hd hrow
 clear hA hX hrow
 go_enter Tryz.func120,Tryz.ntmps120
 go_wp2_with fail
 refine (dJ d _).mono ?_
 rintro e w1 ⟨rfl,b1⟩
 have hs1:=b1.size
 simp only [World.size_alloc] at hs1
 obtain ⟨hcc,hff⟩:=aQ b1
 have B1:=Hd b1
 clear b1
 cases hd:bL d with
 | false =>
  have HD:=Hd hd
  clear hd
  go_wp2_with fail
  go_ret
  exact ⟨aI (by simp [ae,HD.out]),aA hB0 B1.out⟩
 | true =>
  obtain ⟨hN,hN1,hN2⟩:=bO hd
  obtain ⟨hw1,hw2,hh1,hh2,ht1,ht2,_⟩:=ah hd
  have HD:=Hd hd
  clear hd
  by_cases hlen:n=tiles d
  ·subst hlen
   obtain ⟨hx1,hA⟩:=HI.out.below (aA hB0 B1.out)
   clear hx1 HI
   generalize hT:tiles d=N at *
   have HT:=Hd hT
   have HN:=Hd hN
   clear hT
   go_wp2_with fail
   clear hN
   refine (iq d _ HD.out).mono ?_
   rintro e w2 ⟨rfl,b2⟩
   have hfb:=jG HD.out
   obtain ⟨F,hF⟩:∃F:Nat,fwI d=(F:Int):=⟨(fwI d).toNat,by omega⟩
   rw [hF] at hfb
   have E2:=Hd (aA B1.out b2)
   have hA2:Hid (∀w3,Below w2.heap.size w2 w3→eD w3 A N fs):=fun w3 h3=>eD.below (w:=w1) ⟨HX.out,hA⟩ (aA b2 h3)
   clear hcc hff b2 hA
   rw [hF]
   have HF:=Hd hF
   clear hF
   go_wp2_with fail
   go_loopw [6] (fun i wr=>∃k nq:Nat,k<=N/\i = .int .i64 k/\wr=w2.drewN nq/\∀j,j<k→bJ (fs[j]?.getD []) (fwI d) 4194303=true) (fun i _=>N - (intOf i).toNat)
   case atStart=>exact ⟨0,0,Nat.zero_le _,rfl,rfl,by intro j hj;omega⟩
   case round =>
    obtain ⟨k,nq,hk,rfl,rfl,hall⟩:=hrel
    have HALL:=Hd hall
    clear hall
    by_cases hlt:k<N
    ·obtain ⟨_,hA⟩:=hA2.out w2 (Below.refl _ _)
     obtain ⟨b,o,rfl,hb,hc⟩:=hA (by omega)
     obtain ⟨A1,m1,c1,hck,hI1⟩:=hc k hlt
     have hm1:m1<=1099511627776:=by have:=HR.out k;have:=hI1.1;omega
     have HM1:=Hd hI1.1
     have hA1:=hI1.2
     have HBD:Hid (bJ (fs[k]?.getD []) (fwI d) 4194303=false→ae d fs=false):=fun h=>ui (by rw [HX.out];exact hlt) h
     have HG:Hid (bJ (fs[k]?.getD []) (fwI d) 4194303=true→∀j,j<k+1→bJ (fs[j]?.getD []) (fwI d) 4194303=true):=fun h=>gZ HALL.out h
     clear hc hI1 hA hA2
     generalize fs[k]?.getD []=f at *
     by_cases hmF:m1=F
     ·subst hmF
      go_wp2_with fail
      go_loopw [7] (fun i wr=>∃j mq:Nat,j<=m1/\i = .int .i64 j/\wr=w2.drewN mq/\∀q,q<j→inR (f[q]?.getD 0) 0 4194303=true) (fun i _=>m1 - (intOf i).toNat)
      case atStart=>exact ⟨0,nq,Nat.zero_le _,rfl,rfl,by intro j hj;omega⟩
      case round =>
       obtain ⟨j,mq,hj,rfl,rfl,hall2⟩:=hrel
       have HALL2:=Hd hall2
       clear hall2
       by_cases hlj:j<m1
       ·obtain ⟨b2,o2,rfl,hb2,hc2⟩:=hA1 (by omega)
        have hcj:=hc2 j hlj
        have HX2:Hid (inR (f[j]?.getD 0) 0 4194303=false→bJ f (fwI d) 4194303=false):=fun h=>by
         rw [bJ,vP (by rw [HM1.out];exact hlj) h];simp
        have HY2:Hid (inR (f[j]?.getD 0) 0 4194303=true→∀q,q<j+1→inR (f[q]?.getD 0) 0 4194303=true):=fun h=>gZ HALL2.out h
        clear hc2
        generalize f[j]?.getD 0=x at *
        cases hin:inR x 0 4194303 with
        | true =>
         have HY':=Hd (HY2.out hin)
         clear HX2 HY2
         go_wp2_with (go_at_call 175;refine (aX _ _ _ _).mono ?_;rintro e w' ⟨rfl,rfl⟩)
         go_roundw
         case rel=>exact ⟨j+1,_,by omega,by go_num,rfl,HY'.out⟩
         case measure=>simp [intOf];omega
        | false =>
         have HX':=Hd (HBD.out (HX2.out hin))
         clear HX2 HY2
         go_wp2_with (go_at_call 175;refine (aX _ _ _ _).mono ?_;rintro e w' ⟨rfl,rfl⟩)
         go_ret
         exact ⟨aI (by rw [HX'.out]),ai (aA hB0 E2.out) _⟩
       ·have hjm:j=m1:=by omega
        subst hjm
        have HG':=Hd (HG.out (by rw [bJ,HM1.out,HF.out,iZ (by rw [HM1.out];exact HALL2.out)];simp))
        clear HG HBD
        go_wp2_with fail
        go_roundw
        case rel=>exact ⟨k+1,_,by omega,by go_num,rfl,HG'.out⟩
        case measure=>simp [intOf];omega
     ·have hd2:((m1:Int) != (F:Int))=true:=by simp;omega
      have HB':=Hd (HBD.out (by rw [bJ,HM1.out,HF.out];simp;omega))
      clear HG HBD
      go_wp2_with fail
      go_ret
      exact ⟨aI (by rw [HB'.out]),ai (aA hB0 E2.out) _⟩
    ·have hkn:k=N:=by omega
     subst hkn
     go_wp2
     go_ret
     exact ⟨aI (by rw [jd HD.out (by rw [HX.out,HT.out]) (by rw [HX.out];exact HALL.out)]),ai (aA hB0 E2.out) _⟩
  ·have hd1:((n:Int) != (tiles d:Int))=true:=by simp;omega
   go_wp2_with fail
   go_ret
   exact ⟨aI (by have:=HX.out;simp [ae,HD.out];omega),aA hB0 B1.out⟩
theorem mW (B:Option Addr) (m d:Nat) (ys:List Int) (w:World) (h:bN w B m ys) (hm:m<=1099511627776) :
  Calls Tryz.prog 102 #[.slice B m d] w fun e w'=>∃A c,e = .returned (.slice A m c)/\Own w.heap.size w' A m c ys/\Below w.heap.size w w':=by
 have HI:=Hd h
 clear h
 go_enter Tryz.func102,Tryz.ntmps102
 go_wp2_with (at_builtin;refine bP rfl _ _ rfl w.heap.size (some ⟨w.heap.size,0,none⟩) 0 0 [] rfl (Own.newAt (w:=w) rfl (Nat.le_refl _)) B m d ys rfl (HI.out.below (aB (Below.refl _ _) _)) (by omega) (by simp) (aB (Below.refl _ _) _) ?_;rintro A' c' w1 o1 b1 g1)
 have e0:0+m=m:=Nat.zero_add _
 go_ret
 exact ⟨A',c',by simp,by simpa using o1,b1⟩
theorem je (A:Option Addr) (n c:Nat) (xss:List (List Int)) (w:World) (h:eD w A n xss) (hz:bF xss<=1099511627776) :
  Calls Tryz.prog 101 #[.slice A n c] w fun e w'=>∃A' c',e = .returned (.slice A' n c')/\dA w.heap.size w'.heap.size w' A' n c' xss/\Below w.heap.size w w':=by
 obtain ⟨hn,hrow⟩:=gU h.1 hz
 obtain ⟨hx,hA⟩:=h
 have HX:=Hd hx
 have HR:=Hd hrow
 clear hx hrow
 go_enter Tryz.func101,Tryz.ntmps101
 go_wp2_with fail
 go_loopw [3,8] (fun v i wr=>∃(k:Nat) (A':Option Addr) (c':Nat),k<=n/\i = .int .i64 k/\v = .slice A' k c'/\dA w.heap.size wr.heap.size wr A' k c' (xss.take k)/\Below w.heap.size w wr) (fun _ i _=>n - (intOf i).toNat)
 case atStart=>exact ⟨0,none,0,Nat.zero_le _,rfl,rfl,by simpa using dA.nil,Below.refl _ _⟩
 case round =>
  obtain ⟨k,A',c',hk,rfl,rfl,ho,hbe⟩:=hrel
  have HO:=Hd ho
  have HE:=Hd hbe
  clear ho
  by_cases hlt:k<n
  ·obtain ⟨b,o,rfl,hb,hc⟩:=hA (by omega)
   obtain ⟨A1,m1,c1,hck,hI1⟩:=hc k hlt
   rw [←hbe.cell (p:=⟨b,o+k,none⟩) hb] at hck
   have J1:=Hd (hI1.below hbe)
   have hm1:m1<=1099511627776:=by have:=HR.out k;have:=hI1.1;omega
   have hsw:=hbe.size
   clear hc hI1 hbe
   go_wp2_with fail
   refine (mW A1 m1 c1 _ _ J1.out hm1).mono ?_
   rintro e w2 ⟨A2,c2,rfl,o2,b2⟩
   have hs2:=b2.size
   have O2:=Hd o2
   have B2:=Hd b2
   clear o2 b2
   go_wp2_with (at_builtin;refine mV rfl _ _ rfl w.heap.size wr.heap.size A' k c' (xss.take k) wr.heap.size A2 m1 c2 _ rfl (HO.out.below B2.out) O2.out rfl (by omega) (Nat.le_refl _) (by omega) (by omega) (by omega) (aA HE.out B2.out) ?_;rintro g cap w3 o3 b3)
   go_roundw
   case rel=>exact ⟨k+1,_,_,by omega,by go_num,rfl,by rw [sJ (by rw [HX.out];exact hlt)];exact o3,b3⟩
   case measure=>simp [intOf];omega
  ·have hkn:k=n:=by omega
   subst hkn
   go_wp2_with fail
   go_ret
   exact ⟨_,_,rfl,by have:=HO.out;rwa [List.take_of_length_le (by rw [HX.out];exact Nat.le_refl _)] at this,HE.out⟩
theorem dA.widen {lo hi lo' hi':Nat} {w:World} {A:Option Addr} {n c:Nat} {xss:List (List Int)} (h:dA lo hi w A n c xss) (h1:lo'<=lo) (h2:hi<=hi'):dA lo' hi' w A n c xss:=by
 obtain ⟨vs,k1,k2,k3⟩:=h
 refine ⟨vs,⟨k1.1,?_⟩,fun a ha=>Nat.lt_of_lt_of_le (k2 a ha) h2,(k3.widen h2).lower h1⟩
 rcases k1.2 with h0|⟨g,cap,cur,hv,hg,r⟩
 ·exact .inl h0
 ·exact .inr ⟨g,cap,cur,hv,Nat.le_trans h1 hg,r⟩
theorem dA.new0 {w:World} {g:Nat} (hg:w.heap.size=g):dA g (w.alloc (.cells #[] 27)).heap.size (w.alloc (.cells #[] 27)) (some ⟨g,0,none⟩) 0 0 []:=by
 subst hg
 exact ⟨[],⟨rfl,.inr ⟨w.heap.size,0,#[],rfl,Nat.le_refl _,aK _ _,Nat.le_refl _,Nat.zero_le _,rfl,rfl⟩⟩,by rintro a ⟨⟩;simp,iH.nil⟩
theorem l9 (A:Option Addr) (n c:Nat) (xss:List (List Int)) (w:World) (h:eD w A n xss) (hz:bF xss<=1099511627776) :
  Calls Tryz.prog 119 #[.slice A n c] w fun e w'=>∃A' c',e = .returned (.slice A' n c')/\dA w.heap.size w'.heap.size w' A' n c' xss/\Below w.heap.size w w':=by
 obtain ⟨hn,hrow⟩:=gU h.1 hz
 obtain ⟨hx,hA⟩:=h
 have HX:=Hd hx
 have HR:=Hd hrow
 clear hx hrow
 go_enter Tryz.func119,Tryz.ntmps119
 go_wp2_with fail
 go_loopw [3,4] (fun v i wr=>∃(k:Nat) (A':Option Addr) (c':Nat),k<=n/\i = .int .i64 k/\v = .slice A' k c'/\dA w.heap.size wr.heap.size wr A' k c' (xss.take k)/\Below w.heap.size w wr) (fun _ i _=>n - (intOf i).toNat)
 case atStart=>exact ⟨0,_,0,Nat.zero_le _,rfl,rfl,by simpa using dA.new0 rfl,aB (Below.refl _ _) _⟩
 case round =>
  obtain ⟨k,A',c',hk,rfl,rfl,ho,hbe⟩:=hrel
  have HO:=Hd ho
  have HE:=Hd hbe
  clear ho
  by_cases hlt:k<n
  ·obtain ⟨b,o,rfl,hb,hc⟩:=hA (by omega)
   obtain ⟨A1,m1,c1,hck,hI1⟩:=hc k hlt
   rw [←hbe.cell (p:=⟨b,o+k,none⟩) hb] at hck
   have J1:=Hd (hI1.below hbe)
   have hm1:m1<=1099511627776:=by have:=HR.out k;have:=hI1.1;omega
   have hsw:=hbe.size
   have hbw:b<wr.heap.size:=by omega
   clear hc hI1 hbe
   go_wp2_with (first
    | (at_builtin;refine bP rfl (.tmp 13) (.tmp 17) rfl wr.heap.size (some ⟨wr.heap.size,0,none⟩) 0 0 [] rfl (Own.newAt (w:=wr) rfl (Nat.le_refl _)) A1 m1 c1 _ rfl (J1.out.below (aB (Below.refl _ _) _)) (by omega) (by simp) (aB (Below.refl _ _) _) ?_;rintro A2 c2 w2 o2 b2 g2;have hs2:=b2.size;simp only [Nat.zero_add,List.nil_append] at o2)
    | (at_builtin;refine mV rfl _ _ rfl w.heap.size wr.heap.size A' k c' (xss.take k) wr.heap.size A2 m1 c2 _ rfl (HO.out.below b2) o2 rfl (by omega) (Nat.le_refl _) (by omega) (by omega) (by omega) (aA HE.out b2) ?_;rintro g cap w3 o3 b3))
   go_roundw
   case rel=>exact ⟨k+1,_,_,by omega,by go_num,rfl,by rw [sJ (by rw [HX.out];exact hlt)];exact o3,b3⟩
   case measure=>simp [intOf];omega
  ·have hkn:k=n:=by omega
   subst hkn
   go_wp2_with fail
   go_ret
   exact ⟨_,_,rfl,by have:=HO.out;rwa [List.take_of_length_le (by rw [HX.out];exact Nat.le_refl _)] at this,HE.out⟩
end Go.Proofs.YtignkfhdkcgkgaaGreat
