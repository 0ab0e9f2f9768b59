/- The reference's test whether a network of look-up tables is valid: its parts (printed by mklns.py). -/
import Derived.Test.YtofihjoanjkdmaaGreatLayUP
namespace Go.Proofs.YtofihjoanjkdmaaGreat
set_option maxHeartbeats 4000000
set_option maxRecDepth 100000
open Go.RowKit
theorem kg (In:Int) (SA LA OA:Option Addr) (sn sc ln lc on oc:Nat) (w:World) (h0:0<=In) (h1:In<=1099511627776) (h2:sn<=1099511627776) :
  Calls Tryz.prog 156 #[.agg #[.int .i64 In,.slice SA sn sc,.slice LA ln lc,.slice OA on oc]] w fun e w'=>e = .returned (.int .i64 (1+In+(sn:Int)))/\Below w.heap.size w w':=by
 go_enter Tryz.func156,Tryz.ntmps156
 go_wp2
 go_ret
 exact ⟨rfl,aF (Below.refl _ _) _⟩
theorem kF (A:Option Addr) (n c:Nat) (xs:List Int) (m:Int) (w:World) (h:dA w A n xs) (hn:n<=1048576) (_:0<=m/\m<=1048576) :
  Calls Tryz.prog 154 #[.slice A n c,.int .i64 m] w fun e w'=>e = .returned (.bool (tb (ig xs m)))/\w=w':=by
 have HI:=Hd h
 clear h
 go_enter Tryz.func154,Tryz.ntmps154
 go_wp2_with fail
 go_loopw [5] (fun i wr=>∃k:Nat,k<=n/\i = .int .i64 (k:Int)/\w=wr/\∀j,j<k→0<=xs[j]?.getD 0/\xs[j]?.getD 0<m) (fun i _=>n - (intOf i).toNat)
 case atStart=>exact ⟨0,by omega,rfl,rfl,fun j hj=>by omega⟩
 case round =>
  obtain ⟨k,hk,rfl,rfl,hall⟩:=hrel
  have HALL:=Hd hall
  clear hall
  by_cases hlt:k<n
  ·have hdk:decide ((k:Int)<(n:Int))=true:=by simp;omega
   obtain ⟨b,o,rfl,hb,hc⟩:=HI.out.2 (by omega)
   have hck:=hc k hlt
   have hkl:k<xs.length:=by rw [HI.out.1];exact hlt
   have HMM:=Hd (List.getElem_mem hkl)
   have HG:Hid (0<=xs[k]?.getD 0/\xs[k]?.getD 0<m→∀j,j<k+1→0<=xs[j]?.getD 0/\xs[j]?.getD 0<m):=fun h=>bS HALL.out h
   rw [List.getElem?_eq_getElem hkl,Option.getD_some] at hck HG
   generalize xs[k]=x at *
   have i0:(0:Int)<=(k:Int):=by omega
   have i1:(k:Int)<(n:Int):=by omega
   clear hc
   by_cases hx0:x<0
   ·have HN:Hid (¬ig xs m):=fun h=>by have:=(h x HMM.out).1;omega
    have hd:decide (x<0)=true:=decide_eq_true hx0
    clear HG hx0
    go_wp2_with fail
    go_ret
    exact ⟨aP HN.out,rfl⟩
   ·have hd:decide (x<0)=false:=decide_eq_false hx0
    by_cases hxm:x<m
    ·have HG2:=Hd (HG.out ⟨by omega,hxm⟩)
     have hd2:decide (x≥m)=false:=decide_eq_false (by omega)
     clear HG hxm
     go_wp2_with fail
     go_roundw
     case rel=>exact ⟨k+1,by omega,by go_num,by first|rfl|trivial,HG2.out⟩
     case measure=>simp [intOf];omega
    ·have HN:Hid (¬ig xs m):=fun h=>hxm (h x HMM.out).2
     have hd2:decide (x≥m)=true:=decide_eq_true (by omega)
     clear HG
     go_wp2_with fail
     go_ret
     exact ⟨aP HN.out,rfl⟩
  ·have hkn:k=n:=by omega
   subst hkn
   have hdk:decide ((k:Int)<(k:Int))=false:=by simp
   go_wp2_with fail
   go_ret
   refine ⟨cO fun x hx=>?_,rfl⟩
   obtain ⟨j,hj,rfl⟩:=List.getElem_of_mem hx
   have:=HALL.out j (by rw [←HI.out.1];exact hj)
   rwa [List.getElem?_eq_getElem hj,Option.getD_some] at this
theorem nN (l:ai) (SA LA OA:Option Addr) (sn sc ln lc on oc:Nat) (w:World) (hi:0<=l.inputs/\l.inputs<=20) (h1:sn<=12) (h2:ln<=400) (h3:on<=16) :
  Calls Tryz.prog 153 #[iD l SA LA OA sn sc ln lc on oc] w fun e w'=>e = .returned (.int .i64 (1+l.inputs+(sn:Int)+(ln:Int)))/\Below w.heap.size w w':=by
 have HB0:=Hd (aF (Below.refl w.heap.size w) (.cells (av l SA LA OA sn sc ln lc on oc) 41))
 have HR:Hid (inR l.inputs 0 20=true):=aV.2 hi
 have d1:decide ((12:Int)<(sn:Int))=false:=decide_eq_false (by omega)
 have d2:decide ((400:Int)<(ln:Int))=false:=decide_eq_false (by omega)
 have d3:decide ((16:Int)<(on:Int))=false:=decide_eq_false (by omega)
 go_enter Tryz.func153,Tryz.ntmps153
 go_wp2_with fail
 refine (af l.inputs 0 20 _).mono ?_
 rw [HR.out]
 rintro _ w1 ⟨rfl,rfl⟩
 go_wp2_with fail
 go_ret
 exact ⟨rfl,HB0.out⟩
theorem sJ (l:ai) (SA LA OA:Option Addr) (sn sc ln lc on oc:Nat) (w:World) (h:¬((0<=l.inputs/\l.inputs<=20)/\sn<=12/\ln<=400/\on<=16)) :
  Calls Tryz.prog 153 #[iD l SA LA OA sn sc ln lc on oc] w fun e w'=>e = .returned (.int .i64 0)/\Below w.heap.size w w':=by
 have HB0:=Hd (aF (Below.refl w.heap.size w) (.cells (av l SA LA OA sn sc ln lc on oc) 41))
 cases hr:inR l.inputs 0 20 with
 | false =>
  have HR:=Hd hr
  clear hr h
  go_enter Tryz.func153,Tryz.ntmps153
  go_wp2_with fail
  refine (af l.inputs 0 20 _).mono ?_
  rw [HR.out]
  rintro _ w1 ⟨rfl,rfl⟩
  go_wp2_with fail
  go_ret
  exact ⟨rfl,HB0.out⟩
 | true =>
  have HR:=Hd hr
  have hi:=aV.1 hr
  clear hr
  by_cases h1:sn<=12
  ·have d1:decide ((12:Int)<(sn:Int))=false:=decide_eq_false (by omega)
   by_cases h2:ln<=400
   ·have d2:decide ((400:Int)<(ln:Int))=false:=decide_eq_false (by omega)
    have h3:¬on<=16:=fun h3=>h ⟨hi,h1,h2,h3⟩
    have d3:decide ((16:Int)<(on:Int))=true:=decide_eq_true (by omega)
    clear h h1 h2 h3 hi
    go_enter Tryz.func153,Tryz.ntmps153
    go_wp2_with fail
    refine (af l.inputs 0 20 _).mono ?_
    rw [HR.out]
    rintro _ w1 ⟨rfl,rfl⟩
    go_wp2_with fail
    go_ret
    exact ⟨rfl,HB0.out⟩
   ·have d2:decide ((400:Int)<(ln:Int))=true:=decide_eq_true (by omega)
    clear h h1 h2 hi
    go_enter Tryz.func153,Tryz.ntmps153
    go_wp2_with fail
    refine (af l.inputs 0 20 _).mono ?_
    rw [HR.out]
    rintro _ w1 ⟨rfl,rfl⟩
    go_wp2_with fail
    go_ret
    exact ⟨rfl,HB0.out⟩
  ·have d1:decide ((12:Int)<(sn:Int))=true:=decide_eq_true (by omega)
   clear h h1 hi
   go_enter Tryz.func153,Tryz.ntmps153
   go_wp2_with fail
   refine (af l.inputs 0 20 _).mono ?_
   rw [HR.out]
   rintro _ w1 ⟨rfl,rfl⟩
   go_wp2_with fail
   go_ret
   exact ⟨rfl,HB0.out⟩
theorem uP (n:Nat) (w:World) (hn:n<=4) :
  Calls Tryz.prog 239 #[.int .i64 (n:Int)] w fun e w'=>e = .returned (.int .i64 (((2 ^ 2 ^ n:Nat):Int) - 1))/\w=w':=by
 have hc:n=0∨n=1∨n=2∨n=3∨n=4:=by omega
 rcases hc with rfl|rfl|rfl|rfl|rfl
 ·show Calls Tryz.prog 239 #[.int .i64 0] w fun e w'=>e = .returned (.int .i64 1)/\w=w'
  go_enter Tryz.func239,Tryz.ntmps239
  go_wp2
  go_ret
  exact ⟨rfl,rfl⟩
 ·show Calls Tryz.prog 239 #[.int .i64 1] w fun e w'=>e = .returned (.int .i64 3)/\w=w'
  go_enter Tryz.func239,Tryz.ntmps239
  go_wp2
  go_ret
  exact ⟨rfl,rfl⟩
 ·show Calls Tryz.prog 239 #[.int .i64 2] w fun e w'=>e = .returned (.int .i64 15)/\w=w'
  go_enter Tryz.func239,Tryz.ntmps239
  go_wp2
  go_ret
  exact ⟨rfl,rfl⟩
 ·show Calls Tryz.prog 239 #[.int .i64 3] w fun e w'=>e = .returned (.int .i64 255)/\w=w'
  go_enter Tryz.func239,Tryz.ntmps239
  go_wp2
  go_ret
  exact ⟨rfl,rfl⟩
 ·show Calls Tryz.prog 239 #[.int .i64 4] w fun e w'=>e = .returned (.int .i64 65535)/\w=w'
  go_enter Tryz.func239,Tryz.ntmps239
  go_wp2
  go_ret
  exact ⟨rfl,rfl⟩
theorem sK (n:Nat) (m:Int) (w:World) :
  Calls Tryz.prog 155 #[.agg #[.int .i64 (n:Int),.int .i64 m]] w fun e w'=>e = .returned (.bool (tb (gD n m)))/\Below w.heap.size w w':=by
 have HB0:=Hd (aF (Below.refl w.heap.size w) (.cells #[.int .i64 (n:Int),.int .i64 m] 188))
 have hx:=aK w (.cells #[.int .i64 (n:Int),.int .i64 m] 188)
 have x0:=aA (k:=0) hx rfl
 have x1:=aA (k:=1) hx rfl
 have lx:=aC hx
 have HT:Hid (gD n m↔inR (n:Int) 0 4=true/\0<=m/\m<=((2 ^ 2 ^ n:Nat):Int) - 1):=by
  show _↔_
  rw [aV]
  unfold gD
  have e:((2 ^ 2 ^ n:Nat):Int)=2 ^ 2 ^ n:=by simp
  rw [e]
  omega
 clear hx
 have hI:=fun (x:Sub (w.alloc (.cells #[.int .i64 (n:Int),.int .i64 m] 188)))=>af (n:Int) 0 4 x.v
 cases hr:inR (n:Int) 0 4 with
 | false =>
  rw [hr] at hI
  have HF:Hid (¬gD n m):=fun h=>by rw [(HT.out.1 h).1] at hr;cases hr
  have HI:=Hd hI
  clear hr hI HT
  go_enter Tryz.func155,Tryz.ntmps155
  go_upto_region 1 with fail
  generalize w.alloc (.cells #[.int .i64 (n:Int),.int .i64 m] 188)=W9 at *
  have hsub:=aZ W9
  have hsc:=aR W9
  refine aI W9 (by kernel_rfl) (by kernel_rfl) (Below.refl _ _) ?_
  repeat (go_big_quiet_step ((first
   | (go_at_call 83;with_reducible exact aU (HI.out _)))))
  refine wpQuiet_nil ?_
  rintro _ ⟨⟨w5,hD⟩,rfl⟩
  clear hsub hsc
  have HD:=Hd (aB HB0.out hD)
  clear hD x0 x1 lx
  go_wp2_with fail
  go_ret
  exact ⟨aP HF.out,HD.out⟩
 | true =>
  rw [hr] at hI
  have HI:=Hd hI
  have hn4:n<=4:=by have:=aV.1 hr;omega
  have HFU:=Hd (fun (x:Sub (w.alloc (.cells #[.int .i64 (n:Int),.int .i64 m] 188)))=>uP n x.v hn4)
  have HR:=Hd hr
  clear hr hI
  generalize ((2 ^ 2 ^ n:Nat):Int) - 1=q at *
  by_cases h0:0<=m
  ·have d0:decide (m≥0)=true:=decide_eq_true h0
   by_cases h1:m<=q
   ·have d1:decide (m<=q)=true:=decide_eq_true h1
    have HF:Hid (gD n m):=HT.out.2 ⟨HR.out,h0,h1⟩
    clear HT h1
    go_enter Tryz.func155,Tryz.ntmps155
    go_upto_region 1 with fail
    generalize w.alloc (.cells #[.int .i64 (n:Int),.int .i64 m] 188)=W9 at *
    have hsub:=aZ W9
    have hsc:=aR W9
    refine aI W9 (by kernel_rfl) (by kernel_rfl) (Below.refl _ _) ?_
    repeat (go_big_quiet_step ((first
     | (go_at_call 83;with_reducible exact aU (HI.out _))
     | (go_at_call 239;with_reducible exact aU (HFU.out _)))))
    refine wpQuiet_nil ?_
    rintro _ ⟨⟨w5,hD⟩,rfl⟩
    clear hsub hsc
    have HD:=Hd (aB HB0.out hD)
    clear hD x0 x1 lx
    go_wp2_with fail
    go_ret
    exact ⟨cO HF.out,HD.out⟩
   ·have d1:decide (m<=q)=false:=decide_eq_false h1
    have HF:Hid (¬gD n m):=fun h=>h1 (HT.out.1 h).2.2
    clear HT h1
    go_enter Tryz.func155,Tryz.ntmps155
    go_upto_region 1 with fail
    generalize w.alloc (.cells #[.int .i64 (n:Int),.int .i64 m] 188)=W9 at *
    have hsub:=aZ W9
    have hsc:=aR W9
    refine aI W9 (by kernel_rfl) (by kernel_rfl) (Below.refl _ _) ?_
    repeat (go_big_quiet_step ((first
     | (go_at_call 83;with_reducible exact aU (HI.out _))
     | (go_at_call 239;with_reducible exact aU (HFU.out _)))))
    refine wpQuiet_nil ?_
    rintro _ ⟨⟨w5,hD⟩,rfl⟩
    clear hsub hsc
    have HD:=Hd (aB HB0.out hD)
    clear hD x0 x1 lx
    go_wp2_with fail
    go_ret
    exact ⟨aP HF.out,HD.out⟩
  ·have d0:decide (m≥0)=false:=decide_eq_false h0
   have HF:Hid (¬gD n m):=fun h=>h0 (HT.out.1 h).2.1
   clear HT h0
   go_enter Tryz.func155,Tryz.ntmps155
   go_upto_region 1 with fail
   generalize w.alloc (.cells #[.int .i64 (n:Int),.int .i64 m] 188)=W9 at *
   have hsub:=aZ W9
   have hsc:=aR W9
   refine aI W9 (by kernel_rfl) (by kernel_rfl) (Below.refl _ _) ?_
   repeat (go_big_quiet_step ((first
    | (go_at_call 83;with_reducible exact aU (HI.out _)))))
   refine wpQuiet_nil ?_
   rintro _ ⟨⟨w5,hD⟩,rfl⟩
   clear hsub hsc
   have HD:=Hd (aB HB0.out hD)
   clear hD x0 x1 lx
   go_wp2_with fail
   go_ret
   exact ⟨aP HF.out,HD.out⟩
theorem bv (l:ai) (SA LA OA:Option Addr) (sn sc ln lc on oc:Nat) (w:World) (h:fI w l SA LA OA sn sc ln lc on oc) :
  Calls Tryz.prog 81 #[iD l SA LA OA sn sc ln lc on oc] w fun e w'=>e = .returned (.bool (tb (bB l)))/\Below w.heap.size w w':=by
 have HB0:=Hd (aF (Below.refl w.heap.size w) (.cells (av l SA LA OA sn sc ln lc on oc) 41))
 have HBX:=Hd (aK w (.cells (av l SA LA OA sn sc ln lc on oc) 41))
 obtain ⟨hsl,hll,hol⟩:=h.lens
 have HN:=Hd h
 have HSL:=Hd hsl
 have HLL:=Hd hll
 have HOL:=Hd hol
 clear h hsl hll hol
 by_cases hz:(0<=l.inputs/\l.inputs<=20)/\sn<=12/\ln<=400/\on<=16
 ·obtain ⟨hin,hsn12,hln,hon⟩:=hz
  have HC:Hid ((l.count:Int)=1+l.inputs+(sn:Int)+(ln:Int)):=by show _=_;have:=HSL.out;have:=HLL.out;unfold ai.count ai.first;omega
  have HFI:Hid ((l.first:Int)=1+l.inputs+(sn:Int)):=by show _=_;have:=HSL.out;unfold ai.first;omega
  have hN0:((1+l.inputs+(sn:Int)+(ln:Int))==0)=false:=by simp;omega
  have HB1:Hid (0<=1+l.inputs+(sn:Int)+(ln:Int)/\1+l.inputs+(sn:Int)+(ln:Int)<=1048576):=⟨by omega,by omega⟩
  have HIN:=Hd hin
  clear hin
  go_enter Tryz.func81,Tryz.ntmps81
  go_wp2_with fail
  refine (nN l SA LA OA sn sc ln lc on oc _ HIN.out hsn12 hln hon).mono ?_
  rintro _ w1 ⟨rfl,b1⟩
  have B1:=Hd b1
  have HX1:=Hd (aD b1 HBX.out)
  have x1:=aA (k:=1) HX1.out rfl
  have x2:=aA (k:=2) HX1.out rfl
  have x3:=aA (k:=3) HX1.out rfl
  have lx:=aC HX1.out
  clear b1
  go_wp2_with fail
  refine (kF OA on oc l.outs _ _ (HN.out.below (aB HB0.out B1.out)).ou.ints (by omega) HB1.out).mono ?_
  by_cases hou:ig l.outs (1+l.inputs+(sn:Int)+(ln:Int))
  ·rw [aa hou]
   have HOU:=Hd hou
   clear hou
   rintro _ w2 ⟨rfl,rfl⟩
   go_wp2_with fail
   clear x1 x2 x3 lx
   go_loopw [4] (fun i wr=>∃k:Nat,k<=sn/\i = .int .i64 (k:Int)/\Below w1.heap.size w1 wr/\∀j,j<k→ik (l.seqs[j]?.getD Sq.zero).kind (l.seqs[j]?.getD Sq.zero).init (l.seqs[j]?.getD Sq.zero).ins.length/\ig (l.seqs[j]?.getD Sq.zero).ins (1+l.inputs+(sn:Int)+(ln:Int))) (fun i _=>sn - (intOf i).toNat)
   case atStart=>exact ⟨0,by omega,rfl,Below.refl _ _,fun j hj=>by omega⟩
   case round =>
    obtain ⟨k,hk,rfl,hb,hall⟩:=hrel
    have HB:=Hd hb
    have HALL:=Hd hall
    clear hb hall
    by_cases hlt:k<sn
    ·have hdk:decide ((k:Int)<(sn:Int))=true:=by simp;omega
     have HNR:=Hd (HN.out.below (aB (aB HB0.out B1.out) HB.out))
     obtain ⟨b,o,S,m,p,rfl,hbl,c0,c1,c2,r2⟩:=HNR.out.sq.sq' (k:=k) (by rw [HSL.out];exact hlt)
     have hm:(l.seqs[k]?.getD Sq.zero).ins.length=m:=r2.ints.1
     have HR2:=Hd r2
     have HG:Hid (ik (l.seqs[k]?.getD Sq.zero).kind (l.seqs[k]?.getD Sq.zero).init m/\ig (l.seqs[k]?.getD Sq.zero).ins (1+l.inputs+(sn:Int)+(ln:Int))→∀j,j<k+1→ik (l.seqs[j]?.getD Sq.zero).kind (l.seqs[j]?.getD Sq.zero).init (l.seqs[j]?.getD Sq.zero).ins.length/\ig (l.seqs[j]?.getD Sq.zero).ins (1+l.inputs+(sn:Int)+(ln:Int))):=fun h=>bS HALL.out (by rw [hm];exact h)
     have HNO:Hid (¬(ik (l.seqs[k]?.getD Sq.zero).kind (l.seqs[k]?.getD Sq.zero).init m/\ig (l.seqs[k]?.getD Sq.zero).ins (1+l.inputs+(sn:Int)+(ln:Int)))→¬bB l):=fun h hf=>h (by
      have h1:=hf.seqs k (by rw [HSL.out];exact hlt)
      rw [hm] at h1
      exact ⟨h1.1,by rw [←HC.out];exact h1.2⟩)
     generalize l.seqs[k]?.getD Sq.zero=s at *
     have i0:(0:Int)<=(k:Int):=by omega
     have i1:(k:Int)<(sn:Int):=by omega
     clear r2 hm
     have HBS:=Hd (aF (Below.refl wr.heap.size wr) (.cells #[.int .i64 s.kind,.int .i64 s.init,.slice S m p] 91))
     have hy:=aK wr (.cells #[.int .i64 s.kind,.int .i64 s.init,.slice S m p] 91)
     have y0:=aA (k:=0) hy rfl
     have y1:=aA (k:=1) hy rfl
     have y2:=aA (k:=2) hy rfl
     have ly:=aC hy
     clear hy
     have hx:=aD HB.out HX1.out
     have x1:=aA (k:=1) hx rfl
     have lx:=aC hx
     clear hx
     by_cases h0:s.kind=0
     ·have q0:(s.kind==0)=true:=by simp [h0]
      have q1:(s.kind==1)=false:=by simp [h0]
      cases hr:inR s.init 0 1 with
      | false =>
       have HF:Hid (¬bB l):=HNO.out fun h=>by
        rcases h.1 with h|h
        ·rw [aV.2 h.2.1] at hr;cases hr
        ·omega
       have HR:=Hd hr
       clear hr h0
       go_wp2_with fail
       refine (af s.init 0 1 _).mono ?_
       rw [HR.out]
       rintro _ w' ⟨rfl,rfl⟩
       clear HG HNO
       go_wp2_with fail
       go_ret
       exact ⟨aP HF.out,aB (aB (aB HB0.out B1.out) HB.out) HBS.out⟩
      | true =>
       have HR:=Hd hr
       by_cases hn1:m=1
       ·have d1:((m:Int)==1)=true:=by simp;omega
        have HOK:Hid (ik s.kind s.init m) := .inl ⟨h0,aV.1 hr,hn1⟩
        have hmb:m<=4:=by omega
        clear hr h0 hn1
        go_wp2_with fail
        refine (af s.init 0 1 _).mono ?_
        rw [HR.out]
        rintro _ w' ⟨rfl,rfl⟩
        go_wp2_with fail
        refine (kF S m p s.ins _ _ (HR2.out.below HBS.out).ints (by omega) HB1.out).mono ?_
        by_cases hbe:ig s.ins (1+l.inputs+(sn:Int)+(ln:Int))
        ·rw [aa hbe]
         have HG2:=Hd (HG.out ⟨HOK.out,hbe⟩)
         clear hbe HG HNO
         rintro _ w4 ⟨rfl,rfl⟩
         clear y0 y1 y2 ly
         go_wp2_with fail
         go_roundw
         case rel=>exact ⟨k+1,by omega,by go_num,aB HB.out HBS.out,HG2.out⟩
         case measure=>simp [intOf];omega
        ·rw [bF hbe]
         have HF:=Hd (HNO.out fun h=>hbe h.2)
         clear hbe HG HNO
         rintro _ w4 ⟨rfl,rfl⟩
         clear y0 y1 y2 ly
         go_wp2_with fail
         go_ret
         exact ⟨aP HF.out,aB (aB (aB HB0.out B1.out) HB.out) HBS.out⟩
       ·have d1:((m:Int)==1)=false:=by simp;omega
        have HF:Hid (¬bB l):=HNO.out fun h=>by
         rcases h.1 with h|h
         ·exact hn1 h.2.2
         ·omega
        clear hr h0 hn1
        go_wp2_with fail
        refine (af s.init 0 1 _).mono ?_
        rw [HR.out]
        rintro _ w' ⟨rfl,rfl⟩
        clear HG HNO
        go_wp2_with fail
        go_ret
        exact ⟨aP HF.out,aB (aB (aB HB0.out B1.out) HB.out) HBS.out⟩
     ·have q0:(s.kind==0)=false:=by simp [h0]
      by_cases h1:s.kind=1
      ·have q1:(s.kind==1)=true:=by simp [h1]
       cases hr:inR s.init 0 31 with
       | false =>
        have HF:Hid (¬bB l):=HNO.out fun h=>by
         rcases h.1 with h|h
         ·omega
         ·rw [aV.2 h.2.1] at hr;cases hr
        have HR:=Hd hr
        clear hr h0 h1
        go_wp2_with fail
        refine (af s.init 0 31 _).mono ?_
        rw [HR.out]
        rintro _ w' ⟨rfl,rfl⟩
        clear HG HNO
        go_wp2_with fail
        go_ret
        exact ⟨aP HF.out,aB (aB (aB HB0.out B1.out) HB.out) HBS.out⟩
       | true =>
        have HR:=Hd hr
        by_cases hn1:m=4
        ·have d1:((m:Int)==4)=true:=by simp;omega
         have HOK:Hid (ik s.kind s.init m) := .inr ⟨h1,aV.1 hr,hn1⟩
         have hmb:m<=4:=by omega
         clear hr h0 h1 hn1
         go_wp2_with fail
         refine (af s.init 0 31 _).mono ?_
         rw [HR.out]
         rintro _ w' ⟨rfl,rfl⟩
         go_wp2_with fail
         refine (kF S m p s.ins _ _ (HR2.out.below HBS.out).ints (by omega) HB1.out).mono ?_
         by_cases hbe:ig s.ins (1+l.inputs+(sn:Int)+(ln:Int))
         ·rw [aa hbe]
          have HG2:=Hd (HG.out ⟨HOK.out,hbe⟩)
          clear hbe HG HNO
          rintro _ w4 ⟨rfl,rfl⟩
          clear y0 y1 y2 ly
          go_wp2_with fail
          go_roundw
          case rel=>exact ⟨k+1,by omega,by go_num,aB HB.out HBS.out,HG2.out⟩
          case measure=>simp [intOf];omega
         ·rw [bF hbe]
          have HF:=Hd (HNO.out fun h=>hbe h.2)
          clear hbe HG HNO
          rintro _ w4 ⟨rfl,rfl⟩
          clear y0 y1 y2 ly
          go_wp2_with fail
          go_ret
          exact ⟨aP HF.out,aB (aB (aB HB0.out B1.out) HB.out) HBS.out⟩
        ·have d1:((m:Int)==4)=false:=by simp;omega
         have HF:Hid (¬bB l):=HNO.out fun h=>by
          rcases h.1 with h|h
          ·omega
          ·exact hn1 h.2.2
         clear hr h0 h1 hn1
         go_wp2_with fail
         refine (af s.init 0 31 _).mono ?_
         rw [HR.out]
         rintro _ w' ⟨rfl,rfl⟩
         clear HG HNO
         go_wp2_with fail
         go_ret
         exact ⟨aP HF.out,aB (aB (aB HB0.out B1.out) HB.out) HBS.out⟩
      ·have q1:(s.kind==1)=false:=by simp [h1]
       have HF:Hid (¬bB l):=HNO.out fun h=>by
        rcases h.1 with h|h
        ·exact h0 h.1
        ·exact h1 h.1
       clear h0 h1
       clear HG HNO
       go_wp2_with fail
       go_ret
       exact ⟨aP HF.out,aB (aB (aB HB0.out B1.out) HB.out) HBS.out⟩
    ·have hdk:decide ((k:Int)<(sn:Int))=false:=by simp;omega
     have hkn:k=sn:=by omega
     have HSQ:Hid (∀j,j<sn→ik (l.seqs[j]?.getD Sq.zero).kind (l.seqs[j]?.getD Sq.zero).init (l.seqs[j]?.getD Sq.zero).ins.length/\ig (l.seqs[j]?.getD Sq.zero).ins (1+l.inputs+(sn:Int)+(ln:Int))):=fun j hj=>HALL.out j (by omega)
     have HX2:=Hd (aD HB.out HX1.out)
     clear HALL hkn
     have x1:=aA (k:=1) HX2.out rfl
     have lx:=aC HX2.out
     obtain ⟨wo,rfl⟩:∃y,y=wr:=⟨wr,rfl⟩
     go_wp2_with fail
     clear x1 lx
     go_loopw [6] (fun i wr=>∃k:Nat,k<=ln/\i = .int .i64 (k:Int)/\Below wo.heap.size wo wr/\∀j,j<k→gD (l.luts[j]?.getD Lt.zero).ins.length (l.luts[j]?.getD Lt.zero).mask/\ig (l.luts[j]?.getD Lt.zero).ins (1+l.inputs+(sn:Int)+(j:Int))) (fun i _=>ln - (intOf i).toNat)
     case atStart=>exact ⟨0,by omega,rfl,Below.refl _ _,fun j hj=>by omega⟩
     case round =>
      obtain ⟨k,hk,rfl,hb,hall⟩:=hrel
      have HB':=Hd hb
      have HALL:=Hd hall
      clear hb hall
      have HXW:=Hd (aD HB'.out HX2.out)
      have z2:=aA (k:=2) HXW.out rfl
      have lz:=aC HXW.out
      by_cases hlt2:k<ln
      ·have hdk2:decide ((k:Int)<(ln:Int))=true:=by simp;omega
       have HNR:=Hd (HN.out.below (aB (aB (aB HB0.out B1.out) HB.out) HB'.out))
       have HX3:=Hd (aD HB'.out HX2.out)
       obtain ⟨b,o,S,m,p,rfl,hbl,c0,c1,r2⟩:=HNR.out.lt.lut' (k:=k) (by rw [HLL.out];exact hlt2)
       have hm:(l.luts[k]?.getD Lt.zero).ins.length=m:=r2.ints.1
       have HR2:=Hd r2
       have HG:Hid (gD m (l.luts[k]?.getD Lt.zero).mask/\ig (l.luts[k]?.getD Lt.zero).ins (1+l.inputs+(sn:Int)+(k:Int))→∀j,j<k+1→gD (l.luts[j]?.getD Lt.zero).ins.length (l.luts[j]?.getD Lt.zero).mask/\ig (l.luts[j]?.getD Lt.zero).ins (1+l.inputs+(sn:Int)+(j:Int))):=fun h=>bS HALL.out (by rw [hm];exact h)
       have HNO:Hid (¬(gD m (l.luts[k]?.getD Lt.zero).mask/\ig (l.luts[k]?.getD Lt.zero).ins (1+l.inputs+(sn:Int)+(k:Int)))→¬bB l):=fun h hf=>h (by
        have h1:=hf.luts k (by rw [HLL.out];exact hlt2)
        rw [hm] at h1
        exact ⟨⟨h1.1,h1.2.1⟩,by rw [←HFI.out];exact h1.2.2⟩)
       generalize l.luts[k]?.getD Lt.zero=s at *
       have i0:(0:Int)<=(k:Int):=by omega
       have i1:(k:Int)<(ln:Int):=by omega
       clear r2 hm
       have HW9:=Hd (aF (Below.refl wr.heap.size wr) (.cells #[.slice S m p,.int .i64 s.mask] 96))
       have y0:=aA (k:=0) (aK wr (.cells #[.slice S m p,.int .i64 s.mask] 96)) rfl
       have y1:=aA (k:=1) (aK wr (.cells #[.slice S m p,.int .i64 s.mask] 96)) rfl
       have ly:=aC (aK wr (.cells #[.slice S m p,.int .i64 s.mask] 96))
       have hx9:=aD HW9.out HX3.out
       have x0:=aA (k:=0) hx9 rfl
       have x1:=aA (k:=1) hx9 rfl
       have x2:=aA (k:=2) hx9 rfl
       have x3:=aA (k:=3) hx9 rfl
       have lx:=aC hx9
       have hgz:wr.heap.size≠w.heap.size:=by have:=aC HX3.out;omega
       go_upto_region 14 with fail
       generalize wr.alloc (.cells #[.slice S m p,.int .i64 s.mask] 96)=W9 at *
       have HFL:=Hd (fun (x:Sub W9)=>kg l.inputs SA (some ⟨b,o,none⟩) OA sn sc ln lc on oc x.v HIN.out.1 (by have:=HIN.out;omega) (by omega))
       have hin0:=HIN.out.1
       have hin1:=HIN.out.2
       clear c0 c1 hx9 z2 lz
       have hTB:=fun (x:Sub W9)=>sK m s.mask x.v
       by_cases htb:gD m s.mask
       ·rw [aa htb] at hTB
        have hm4:m<=4:=htb.1
        have HTB:=Hd hTB
        have hNB:=fun (x:Sub W9)=>kF S m p s.ins (1+l.inputs+(sn:Int)+(k:Int)) x.v (HR2.out.below (aB HW9.out x.h)).ints (by omega) (by omega)
        have HTF:=Hd htb
        clear htb hTB
        by_cases hbe:ig s.ins (1+l.inputs+(sn:Int)+(k:Int))
        ·rw [aa hbe] at hNB
         have HNB:=Hd hNB
         have HG2:=Hd (HG.out ⟨HTF.out,hbe⟩)
         clear hNB hbe HG HNO
         have hsub:=aZ W9
         have hsc:=aR W9
         refine aI W9 (by kernel_rfl) (by kernel_rfl) (Below.refl _ _) ?_
         repeat (go_big_quiet_step ((first
          | (go_at_call 155;with_reducible exact aO (HTB.out _))
          | (go_at_call 156;with_reducible exact aO (HFL.out _))
          | (go_at_call 154;with_reducible exact aU (HNB.out _)))))
         refine wpQuiet_nil ?_
         rintro _ ⟨⟨w5,hD⟩,rfl⟩
         clear hsub hsc
         have HD:=Hd (aB HW9.out hD)
         clear hD x0 x1 x2 x3 lx y0 y1 ly
         go_wp2_with fail
         go_roundw
         case rel=>exact ⟨k+1,by omega,by go_num,aB HB'.out HD.out,HG2.out⟩
         case measure=>simp [intOf];omega
        ·rw [bF hbe] at hNB
         have HNB:=Hd hNB
         have HF:=Hd (HNO.out fun h=>hbe h.2)
         clear hNB hbe HG HNO
         have hsub:=aZ W9
         have hsc:=aR W9
         refine aI W9 (by kernel_rfl) (by kernel_rfl) (Below.refl _ _) ?_
         repeat (go_big_quiet_step ((first
          | (go_at_call 155;with_reducible exact aO (HTB.out _))
          | (go_at_call 156;with_reducible exact aO (HFL.out _))
          | (go_at_call 154;with_reducible exact aU (HNB.out _)))))
         refine wpQuiet_nil ?_
         rintro _ ⟨⟨w5,hD⟩,rfl⟩
         clear hsub hsc
         have HD:=Hd (aB HW9.out hD)
         clear hD x0 x1 x2 x3 lx y0 y1 ly
         go_wp2_with fail
         go_ret
         exact ⟨aP HF.out,aB (aB (aB (aB HB0.out B1.out) HB.out) HB'.out) HD.out⟩
       ·rw [bF htb] at hTB
        have HTB:=Hd hTB
        have HF:=Hd (HNO.out fun h=>htb h.1)
        clear hTB htb HG HNO
        have hsub:=aZ W9
        have hsc:=aR W9
        refine aI W9 (by kernel_rfl) (by kernel_rfl) (Below.refl _ _) ?_
        repeat (go_big_quiet_step ((first
         | (go_at_call 155;with_reducible exact aO (HTB.out _)))))
        refine wpQuiet_nil ?_
        rintro _ ⟨⟨w5,hD⟩,rfl⟩
        clear hsub hsc
        have HD:=Hd (aB HW9.out hD)
        clear hD x0 x1 x2 x3 lx y0 y1 ly
        go_wp2_with fail
        go_ret
        exact ⟨aP HF.out,aB (aB (aB (aB HB0.out B1.out) HB.out) HB'.out) HD.out⟩
      ·have hdk2:decide ((k:Int)<(ln:Int))=false:=by simp;omega
       have hkn:k=ln:=by omega
       have HLU:Hid (∀j,j<ln→gD (l.luts[j]?.getD Lt.zero).ins.length (l.luts[j]?.getD Lt.zero).mask/\ig (l.luts[j]?.getD Lt.zero).ins (1+l.inputs+(sn:Int)+(j:Int))):=fun j hj=>HALL.out j (by omega)
       have HF2:=Hd (aB (aB (aB HB0.out B1.out) HB.out) HB'.out)
       have HFIT:Hid (bB l):=⟨HIN.out,by have:=HSL.out;omega,by have:=HLL.out;omega,by have:=HOL.out;omega,by have:=HOU.out;rw [←HC.out] at this;exact this,fun i hi=>by have:=HSQ.out i (by rw [←HSL.out];exact hi);rw [←HC.out] at this;exact this,fun i hi=>by have:=HLU.out i (by rw [←HLL.out];exact hi);rw [←HFI.out] at this;exact ⟨this.1.1,this.1.2,this.2⟩⟩
       clear HALL hkn
       go_wp2_with fail
       go_ret
       exact ⟨cO HFIT.out,HF2.out⟩
  ·rw [bF hou]
   have HF:Hid (¬bB l):=fun hf=>hou (by rw [←HC.out];exact hf.outs)
   clear hou
   rintro _ w2 ⟨rfl,rfl⟩
   go_wp2_with fail
   go_ret
   exact ⟨aP HF.out,aB HB0.out B1.out⟩
 ·have HF:Hid (¬bB l):=fun hf=>hz ⟨hf.inp,by have:=hf.nseq;have:=HSL.out;omega,by have:=hf.nlut;have:=HLL.out;omega,by have:=hf.nout;have:=HOL.out;omega⟩
  go_enter Tryz.func81,Tryz.ntmps81
  go_wp2_with fail
  refine (sJ l SA LA OA sn sc ln lc on oc _ hz).mono ?_
  rintro _ w1 ⟨rfl,b1⟩
  have B1:=Hd b1
  clear b1 hz
  go_wp2_with fail
  go_ret
  exact ⟨aP HF.out,aB HB0.out B1.out⟩
theorem uQ (l:ai) (SA LA OA:Option Addr) (sn sc ln lc on oc:Nat) (w:World) (h:fI w l SA LA OA sn sc ln lc on oc) (hf:bB l) :
  Calls Tryz.prog 240 #[iD l SA LA OA sn sc ln lc on oc] w fun e w'=>∃A,e = .returned (.slice A l.count l.count)/\Own w.heap.size w' A l.count l.count (aG l.count (jS l))/\Below w.heap.size w w':=by
 have HB0:=Hd (aF (Below.refl w.heap.size w) (.cells (av l SA LA OA sn sc ln lc on oc) 41))
 have HBX:=Hd (aK w (.cells (av l SA LA OA sn sc ln lc on oc) 41))
 obtain ⟨hsl,hll,hol⟩:=h.lens
 have h1:=hf.nseq
 have h2:=hf.nlut
 have h3:=hf.nout
 have HIN:=Hd hf.inp
 have hin:=hf.inp
 have HN:=Hd h
 have HF:=Hd hf
 have HLL:=Hd hll
 have HSL:=Hd hsl
 have HOL:=Hd hol
 have hC:1+l.inputs+(sn:Int)+(ln:Int)=(l.count:Int):=by unfold ai.count ai.first;omega
 have HFC:Hid ((l.first:Int)+(ln:Int)=(l.count:Int)):=by show _=_;unfold ai.count;omega
 obtain ⟨C,hCC⟩:∃C,l.count=C:=⟨_,rfl⟩
 have HCC:=Hd hCC
 rw [hCC] at hC
 have hCb:C<=433:=by omega
 have hsn:sn<=12:=by omega
 have hln:ln<=400:=by omega
 have hon:on<=16:=by omega
 obtain ⟨i0,hi,hz0,hz1,hz2⟩:=info_parts jC
 have hmk:=fun W=>dB (P:=Tryz.prog) 26 3 i0 _ Tryz.underlying26 hi hz0 .i64 .i64 C C (Nat.le_refl _) (by rw [hz2];omega) (by omega) W
 rw [hz1,Nat.mul_one,show (Value.int .i64 0).cells=#[Value.int .i64 0] from rfl,oV] at hmk
 have HC:=Hd hC
 rw [hCC]
 clear h hf hsl hll hol h1 h2 h3 hCC hi hz0 hz1 hz2 hC
 go_enter Tryz.func240,Tryz.ntmps240
 go_wp2_with fail
 refine (nN l SA LA OA sn sc ln lc on oc _ HIN.out hsn hln hon).mono ?_
 rw [HC.out]
 rintro _ w1 ⟨rfl,b1⟩
 have HX1:=Hd (aD b1 HBX.out)
 have HW1:=Hd (aB HB0.out b1)
 have hs1:=(aM.refl w1).consOwn (aF (Below.refl _ _) (.cells (arr (List.replicate C 0)) 3)) (Own.arr (n:=C) (aK w1 _) (Nat.le_refl _) (by unfold maxLen;omega) (by simp))
 have HS1:=Hd (show aM w1 (w1.alloc (.cells (arr (List.replicate C 0)) 3)) [.cel (aJ (aG C ((l.luts.take 0).flatMap Lt.ins))) (.slice (some ⟨w1.heap.size,0,none⟩) C C)] from by
  rw [List.take_zero,List.flatMap_nil,mJ]
  exact hs1)
 have HX2:=Hd (aD hs1.bel HX1.out)
 clear b1 hs1 hin
 have hx:=HX2.out
 have x0:=aA (k:=0) hx rfl
 have x1:=aA (k:=1) hx rfl
 have x2:=aA (k:=2) hx rfl
 have x3:=aA (k:=3) hx rfl
 have lx:=aC hx
 have hgn:w.heap.size≠w1.heap.size:=by have:=aC HX1.out;omega
 clear hx
 go_wp2_with fail
 clear x0 x1 x2 x3 lx hmk
 go_loopw [4] (fun i wr=>∃k:Nat,k<=ln/\i = .int .i64 (k:Int)/\aM w1 wr [.cel (aJ (aG C ((l.luts.take k).flatMap Lt.ins))) (.slice (some ⟨w1.heap.size,0,none⟩) C C)]) (fun i _=>ln - (intOf i).toNat)
 case atStart=>exact ⟨0,by omega,rfl,HS1.out⟩
 case round =>
  obtain ⟨k,hk,rfl,hs⟩:=hrel
  have HSS:=Hd hs
  have hx:=aD hs.bel HX1.out
  have x2:=aA (k:=2) hx rfl
  have lx:=aC hx
  clear hs hx
  by_cases hlt:k<ln
  ·have hdk:decide ((k:Int)<(ln:Int))=true:=by simp;omega
   obtain ⟨b,o,S,m,p,hA,hbl,c0,c1,r2⟩:=HN.out.lt.lut' (k:=k) (by rw [HLL.out];exact hlt)
   have CI:=Hd c0
   have HR2:=Hd r2
   have hkl:k<l.luts.length:=by rw [HLL.out];exact hlt
   have HSN:=Hd (show ((l.luts.take k).flatMap Lt.ins)++(l.luts[k]?.getD Lt.zero).ins=(l.luts.take (k+1)).flatMap Lt.ins from by rw [rE hkl])
   have HXB:Hid (∀n∈(l.luts[k]?.getD Lt.zero).ins,0<=n/\n<(C:Int)):=fun n hn=>by
    have h:=(HF.out.luts k hkl).2.2 n hn
    have h2:=HCC.out
    have h3:=HFC.out
    omega
   have HBS:Hid (((l.luts.take k).flatMap Lt.ins).length+(l.luts[k]?.getD Lt.zero).ins.length<=3000):=by
    show _<=_
    have h1:=congrArg List.length HSN.out
    rw [List.length_append] at h1
    have h2:=gu HF.out (k+1)
    have h3:=kI HF.out (k+1)
    have h4:=gu HF.out l.luts.length
    rw [List.take_length] at h4
    (try simp only [List.length_append] at h1 ⊢)
    omega
   subst hA
   clear r2 hkl c0 c1
   generalize l.luts[k]?.getD Lt.zero=x at *
   generalize (l.luts.take k).flatMap Lt.ins=BS at *
   have i0:(0:Int)<=(k:Int):=by omega
   have i1:(k:Int)<(ln:Int):=by omega
   obtain ⟨wo,rfl⟩:∃y,y=wr:=⟨wr,rfl⟩
   go_wp2_with fail
   clear x2 lx
   go_loopw [5] (fun i wr=>∃j:Nat,j<=m/\i = .int .i64 (j:Int)/\aM w1 wr [.cel (aJ (aG C (jc (BS) (x.ins) j))) (.slice (some ⟨w1.heap.size,0,none⟩) C C)]) (fun i _=>m - (intOf i).toNat)
   case atStart=>exact ⟨0,by omega,rfl,by rw [kJ];exact HSS.out⟩
   case round =>
    obtain ⟨j,hj,rfl,hs⟩:=hrel
    have HSS:=Hd hs
    have HLU:=Hd (HR2.out.ints)
    have hx:=aD hs.bel HX1.out
    have x2:=aA (k:=2) hx rfl
    have lx:=aC hx
    have cI:=((aB HW1.out hs.bel).cell (p:=⟨b,o+k * 2,none⟩) hbl).trans CI.out
    have lbl:=aL (aB HW1.out hs.bel) hbl
    clear hx
    by_cases hltj:j<m
    ·have hdj:decide ((j:Int)<(m:Int))=true:=by simp;omega
     obtain ⟨bt,ot,hA,hbt,hct⟩:=HLU.out.2 (by omega)
     have HA:=Hd hA
     have hck:=((aB HW1.out hs.bel).cell (p:=⟨bt,ot+j,none⟩) hbt).trans (hct j hltj)
     have lbt:=aL (aB HW1.out hs.bel) hbt
     have hjl:j<(x.ins).length:=by rw [HLU.out.1];exact hltj
     have hxb:=HXB.out _ (List.getElem_mem hjl)
     have hsn:=kL (bs:=BS) hjl
     rw [List.getElem?_eq_getElem hjl,Option.getD_some] at hck hsn
     have hlen:=lZ (BS) (x.ins) j
     have hbsl:=HBS.out
     have hxl:=HLU.out.1
     generalize (x.ins)[j]=x at *
     obtain ⟨X,rfl⟩:=Int.eq_ofNat_of_zero_le hxb.1
     have hXC:X<C:=by omega
     obtain ⟨cX,fX,lX,hN⟩:=lg hs hXC
     rw [hsn] at hN
     have hcl:=d9 (jc (BS) (x.ins) j) (X:Int)
     have HNS:=Hd hN
     clear hN hsn hct hs
     generalize cnt (jc (BS) (x.ins) j) (X:Int)=q at *
     have hq:q<=10000:=by omega
     have hjb:j<=10000:=by omega
     clear hcl hlen hbsl hxl hjl hxb
     have i0:(0:Int)<=(j:Int):=by omega
     have i1:(j:Int)<(m:Int):=by omega
     have i2:(0:Int)<=(X:Int):=by omega
     have i3:(X:Int)<(C:Int):=by omega
     subst hA
     go_wp2_with fail
     go_roundw
     case rel=>exact ⟨j+1,by omega,by go_num,HNS.out⟩
     case measure=>simp [intOf];omega
    ·have hjn:j=m:=by omega
     have hdj:decide ((j:Int)<(m:Int))=false:=by simp;omega
     have HD:=Hd (show aM w1 wr [.cel (aJ (aG C ((BS)++(x.ins)))) (.slice (some ⟨w1.heap.size,0,none⟩) C C)] from by rw [←kK HLU.out.1,←hjn];exact hs)
     clear hs HLU HSS hjn
     have HNX:=Hd (show aM w1 wr [.cel (aJ (aG C ((l.luts.take (k+1)).flatMap Lt.ins))) (.slice (some ⟨w1.heap.size,0,none⟩) C C)] from by rw [←HSN.out];exact HD.out)
     go_wp2_with fail
     go_roundw
     case rel=>exact ⟨k+1,by omega,by go_num,HNX.out⟩
     case measure=>simp [intOf];omega
  ·have hkn:k=ln:=by omega
   have hdk:decide ((k:Int)<(ln:Int))=false:=by simp;omega
   have HS2:=Hd (show aM w1 wr [.cel (aJ (aG C (l.luts.flatMap Lt.ins++(l.seqs.take 0).flatMap Sq.ins))) (.slice (some ⟨w1.heap.size,0,none⟩) C C)] from by
    have h:=HSS.out
    rw [hkn,←HLL.out,List.take_length] at h
    simpa using h)
   clear hkn HSS
   obtain ⟨wo,rfl⟩:∃y,y=wr:=⟨wr,rfl⟩
   go_wp2_with fail
   clear x2 lx
   go_loopw [6] (fun i wr=>∃k:Nat,k<=sn/\i = .int .i64 (k:Int)/\aM w1 wr [.cel (aJ (aG C (l.luts.flatMap Lt.ins++(l.seqs.take k).flatMap Sq.ins))) (.slice (some ⟨w1.heap.size,0,none⟩) C C)]) (fun i _=>sn - (intOf i).toNat)
   case atStart=>exact ⟨0,by omega,rfl,HS2.out⟩
   case round =>
    obtain ⟨k,hk,rfl,hs⟩:=hrel
    have HSS:=Hd hs
    have hx:=aD hs.bel HX1.out
    have x1:=aA (k:=1) hx rfl
    have lx:=aC hx
    clear hs hx
    by_cases hlt:k<sn
    ·have hdk:decide ((k:Int)<(sn:Int))=true:=by simp;omega
     obtain ⟨b,o,S,m,p,hA,hbl,c0,c1,c2,r2⟩:=HN.out.sq.sq' (k:=k) (by rw [HSL.out];exact hlt)
     have CI:=Hd c2
     have HR2:=Hd r2
     have hkl:k<l.seqs.length:=by rw [HSL.out];exact hlt
     have HSN:=Hd (show (l.luts.flatMap Lt.ins++(l.seqs.take k).flatMap Sq.ins)++(l.seqs[k]?.getD Sq.zero).ins=l.luts.flatMap Lt.ins++(l.seqs.take (k+1)).flatMap Sq.ins from by rw [List.append_assoc,qB hkl])
     have HXB:Hid (∀n∈(l.seqs[k]?.getD Sq.zero).ins,0<=n/\n<(C:Int)):=fun n hn=>by
      have h:=(HF.out.seqs k hkl).2 n hn
      have h2:=HCC.out
      have h3:=HFC.out
      omega
     have HBS:Hid ((l.luts.flatMap Lt.ins++(l.seqs.take k).flatMap Sq.ins).length+(l.seqs[k]?.getD Sq.zero).ins.length<=3000):=by
      show _<=_
      have h1:=congrArg List.length HSN.out
      rw [List.length_append] at h1
      have h2:=gu HF.out (k+1)
      have h3:=kI HF.out (k+1)
      have h4:=gu HF.out l.luts.length
      rw [List.take_length] at h4
      (try simp only [List.length_append] at h1 ⊢)
      omega
     subst hA
     clear r2 hkl c0 c1 c2
     generalize l.seqs[k]?.getD Sq.zero=x at *
     generalize l.luts.flatMap Lt.ins++(l.seqs.take k).flatMap Sq.ins=BS at *
     have i0:(0:Int)<=(k:Int):=by omega
     have i1:(k:Int)<(sn:Int):=by omega
     obtain ⟨wo,rfl⟩:∃y,y=wr:=⟨wr,rfl⟩
     go_wp2_with fail
     clear x1 lx
     go_loopw [7] (fun i wr=>∃j:Nat,j<=m/\i = .int .i64 (j:Int)/\aM w1 wr [.cel (aJ (aG C (jc (BS) (x.ins) j))) (.slice (some ⟨w1.heap.size,0,none⟩) C C)]) (fun i _=>m - (intOf i).toNat)
     case atStart=>exact ⟨0,by omega,rfl,by rw [kJ];exact HSS.out⟩
     case round =>
      obtain ⟨j,hj,rfl,hs⟩:=hrel
      have HSS:=Hd hs
      have HLU:=Hd (HR2.out.ints)
      have hx:=aD hs.bel HX1.out
      have x1:=aA (k:=1) hx rfl
      have lx:=aC hx
      have cI:=((aB HW1.out hs.bel).cell (p:=⟨b,o+k * 3+2,none⟩) hbl).trans CI.out
      have lbl:=aL (aB HW1.out hs.bel) hbl
      clear hx
      by_cases hltj:j<m
      ·have hdj:decide ((j:Int)<(m:Int))=true:=by simp;omega
       obtain ⟨bt,ot,hA,hbt,hct⟩:=HLU.out.2 (by omega)
       have HA:=Hd hA
       have hck:=((aB HW1.out hs.bel).cell (p:=⟨bt,ot+j,none⟩) hbt).trans (hct j hltj)
       have lbt:=aL (aB HW1.out hs.bel) hbt
       have hjl:j<(x.ins).length:=by rw [HLU.out.1];exact hltj
       have hxb:=HXB.out _ (List.getElem_mem hjl)
       have hsn:=kL (bs:=BS) hjl
       rw [List.getElem?_eq_getElem hjl,Option.getD_some] at hck hsn
       have hlen:=lZ (BS) (x.ins) j
       have hbsl:=HBS.out
       have hxl:=HLU.out.1
       generalize (x.ins)[j]=x at *
       obtain ⟨X,rfl⟩:=Int.eq_ofNat_of_zero_le hxb.1
       have hXC:X<C:=by omega
       obtain ⟨cX,fX,lX,hN⟩:=lg hs hXC
       rw [hsn] at hN
       have hcl:=d9 (jc (BS) (x.ins) j) (X:Int)
       have HNS:=Hd hN
       clear hN hsn hct hs
       generalize cnt (jc (BS) (x.ins) j) (X:Int)=q at *
       have hq:q<=10000:=by omega
       have hjb:j<=10000:=by omega
       clear hcl hlen hbsl hxl hjl hxb
       have i0:(0:Int)<=(j:Int):=by omega
       have i1:(j:Int)<(m:Int):=by omega
       have i2:(0:Int)<=(X:Int):=by omega
       have i3:(X:Int)<(C:Int):=by omega
       subst hA
       go_wp2_with fail
       go_roundw
       case rel=>exact ⟨j+1,by omega,by go_num,HNS.out⟩
       case measure=>simp [intOf];omega
      ·have hjn:j=m:=by omega
       have hdj:decide ((j:Int)<(m:Int))=false:=by simp;omega
       have HD:=Hd (show aM w1 wr [.cel (aJ (aG C ((BS)++(x.ins)))) (.slice (some ⟨w1.heap.size,0,none⟩) C C)] from by rw [←kK HLU.out.1,←hjn];exact hs)
       clear hs HLU HSS hjn
       have HNX:=Hd (show aM w1 wr [.cel (aJ (aG C (l.luts.flatMap Lt.ins++(l.seqs.take (k+1)).flatMap Sq.ins))) (.slice (some ⟨w1.heap.size,0,none⟩) C C)] from by rw [←HSN.out];exact HD.out)
       go_wp2_with fail
       go_roundw
       case rel=>exact ⟨k+1,by omega,by go_num,HNX.out⟩
       case measure=>simp [intOf];omega
    ·have hkn:k=sn:=by omega
     have hdk:decide ((k:Int)<(sn:Int))=false:=by simp;omega
     have HS3:=Hd (show aM w1 wr [.cel (aJ (aG C (l.luts.flatMap Lt.ins++l.seqs.flatMap Sq.ins))) (.slice (some ⟨w1.heap.size,0,none⟩) C C)] from by
      have h:=HSS.out
      rwa [hkn,←HSL.out,List.take_length] at h)
     have HXB:Hid (∀n∈l.outs,0<=n/\n<(C:Int)):=fun n hn=>by
      have h:=HF.out.outs n hn
      have h2:=HCC.out
      omega
     have HBS:Hid ((l.luts.flatMap Lt.ins++l.seqs.flatMap Sq.ins).length+l.outs.length<=3000):=by
      show _<=_
      have h3:=kI HF.out l.seqs.length
      have h4:=gu HF.out l.luts.length
      rw [List.take_length] at h3 h4
      have h5:=HF.out.nout
      rw [List.length_append]
      omega
     clear hkn HSS
     obtain ⟨wo,rfl⟩:∃y,y=wr:=⟨wr,rfl⟩
     go_wp2_with fail
     clear x1 lx
     go_loopw [8] (fun i wr=>∃j:Nat,j<=on/\i = .int .i64 (j:Int)/\aM w1 wr [.cel (aJ (aG C (jc (l.luts.flatMap Lt.ins++l.seqs.flatMap Sq.ins) (l.outs) j))) (.slice (some ⟨w1.heap.size,0,none⟩) C C)]) (fun i _=>on - (intOf i).toNat)
     case atStart=>exact ⟨0,by omega,rfl,by rw [kJ];exact HS3.out⟩
     case round =>
      obtain ⟨j,hj,rfl,hs⟩:=hrel
      have HSS:=Hd hs
      have HLU:=Hd (HN.out.ou.ints)
      have hx:=aD hs.bel HX1.out
      have x3:=aA (k:=3) hx rfl
      have lx:=aC hx
      clear hx
      by_cases hltj:j<on
      ·have hdj:decide ((j:Int)<(on:Int))=true:=by simp;omega
       obtain ⟨bt,ot,hA,hbt,hct⟩:=HLU.out.2 (by omega)
       have HA:=Hd hA
       have hck:=((aB HW1.out hs.bel).cell (p:=⟨bt,ot+j,none⟩) hbt).trans (hct j hltj)
       have lbt:=aL (aB HW1.out hs.bel) hbt
       have hjl:j<(l.outs).length:=by rw [HLU.out.1];exact hltj
       have hxb:=HXB.out _ (List.getElem_mem hjl)
       have hsn:=kL (bs:=l.luts.flatMap Lt.ins++l.seqs.flatMap Sq.ins) hjl
       rw [List.getElem?_eq_getElem hjl,Option.getD_some] at hck hsn
       have hlen:=lZ (l.luts.flatMap Lt.ins++l.seqs.flatMap Sq.ins) (l.outs) j
       have hbsl:=HBS.out
       have hxl:=HLU.out.1
       generalize (l.outs)[j]=x at *
       obtain ⟨X,rfl⟩:=Int.eq_ofNat_of_zero_le hxb.1
       have hXC:X<C:=by omega
       obtain ⟨cX,fX,lX,hN⟩:=lg hs hXC
       rw [hsn] at hN
       have hcl:=d9 (jc (l.luts.flatMap Lt.ins++l.seqs.flatMap Sq.ins) (l.outs) j) (X:Int)
       have HNS:=Hd hN
       clear hN hsn hct hs
       generalize cnt (jc (l.luts.flatMap Lt.ins++l.seqs.flatMap Sq.ins) (l.outs) j) (X:Int)=q at *
       have hq:q<=10000:=by omega
       have hjb:j<=10000:=by omega
       clear hcl hlen hbsl hxl hjl hxb
       have i0:(0:Int)<=(j:Int):=by omega
       have i1:(j:Int)<(on:Int):=by omega
       have i2:(0:Int)<=(X:Int):=by omega
       have i3:(X:Int)<(C:Int):=by omega
       subst hA
       go_wp2_with fail
       go_roundw
       case rel=>exact ⟨j+1,by omega,by go_num,HNS.out⟩
       case measure=>simp [intOf];omega
      ·have hjn:j=on:=by omega
       have hdj:decide ((j:Int)<(on:Int))=false:=by simp;omega
       have HD:=Hd (show aM w1 wr [.cel (aJ (aG C ((l.luts.flatMap Lt.ins++l.seqs.flatMap Sq.ins)++(l.outs)))) (.slice (some ⟨w1.heap.size,0,none⟩) C C)] from by rw [←kK HLU.out.1,←hjn];exact hs)
       clear hs HLU HSS hjn
       go_wp2_with fail
       go_ret
       exact ⟨_,rfl,(HD.out.owned 0 rfl).more (by have:=HW1.out.size;omega),aB HW1.out HD.out.bel⟩
end Go.Proofs.YtofihjoanjkdmaaGreat
