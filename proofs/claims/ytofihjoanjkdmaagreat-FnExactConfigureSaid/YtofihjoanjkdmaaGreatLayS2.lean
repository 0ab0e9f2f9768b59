/- The reference's test whether a network of look-up tables is valid: its parts (printed by mklns.py). -/
import Derived.Test.YtofihjoanjkdmaaGreatLayF3
import Derived.Test.YtofihjoanjkdmaaGreatRtS3
namespace Go.Proofs.YtofihjoanjkdmaaGreat
set_option maxHeartbeats 4000000
set_option maxRecDepth 100000
open Go.RowKit
theorem nY (g:Int) (SA LA OA:Option Addr) (sn sc ln lc on oc:Nat) (w:World) (h0:0<=g) (h1:g<=1099511627776) (h2:sn<=1099511627776) :
  Calls Tryz.prog 156 #[.agg #[.int .i64 g,.slice SA sn sc,.slice LA ln lc,.slice OA on oc]] w fun e w'=>e = .returned (.int .i64 (1+g+(sn:Int)))/\Below w.heap.size w w':=by
 go_enter Tryz.func156,Tryz.ntmps156
 go_wp2
 go_ret
 exact ⟨rfl,aB (Below.refl _ _) _⟩
theorem mW (A:Option Addr) (n c:Nat) (xs:List Int) (m:Int) (w:World) (h:dP w A n xs) (hn:n<=1048576) (_:0<=m/\m<=1048576) :
  Calls Tryz.prog 154 #[.slice A n c,.int .i64 m] w fun e w'=>e = .returned (.bool (tb (jy xs m)))/\w=w':=by
 have Q:=Hd h
 clear h
 go_enter Tryz.func154,Tryz.ntmps154
 go_wp2_with fail
 go_loopw [5] (fun i wr=>∃k:Nat,k<=n/\i = .int .i64 (k:Int)/\w=wr/\∀j,j<k→0<=xs[j]?.getD 0/\xs[j]?.getD 0<m) (fun i _=>n - (intOf i).toNat)
 ·exact ⟨0,by omega,rfl,rfl,fun j hj=>by omega⟩
 obtain ⟨k,hk,rfl,rfl,q⟩:=hrel
 have g:=Hd q
 clear q
 by_cases H:k<n
 ·have R:=dT (by omega:k<n)
  obtain ⟨b,o,rfl,hb,hc⟩:=Q.out.2 (by omega)
  have K:=hc k H
  have B:k<xs.length:=by rw [Q.out.1];exact H
  have G:=Hd (List.getElem_mem B)
  have D:Hid (0<=xs[k]?.getD 0/\xs[k]?.getD 0<m→∀j,j<k+1→0<=xs[j]?.getD 0/\xs[j]?.getD 0<m):=fun h=>bW g.out h
  rw [List.getElem?_eq_getElem B,Option.getD_some] at K D
  generalize xs[k]=x at *
  obtain ⟨Z,Y⟩:=ib (by omega:k<n)
  clear hc
  by_cases z:x<0
  ·have I:Hid (¬jy xs m):=fun h=>by have:=(h x G.out).1;omega
   have V:decide (x<0)=true:=decide_eq_true z
   clear D z
   go_wp2_with fail
   go_ret
   exact ⟨aO I.out,rfl⟩
  have V:decide (x<0)=false:=decide_eq_false z
  by_cases u:x<m
  ·have U:=Hd (D.out ⟨by omega,u⟩)
   have hd2:decide (x≥m)=false:=decide_eq_false (by omega)
   clear D u
   go_wp2_with fail
   go_roundw
   ·exact ⟨k+1,by omega,by go_num,by first|rfl|trivial,U.out⟩
   simp [intOf];omega
  have I:Hid (¬jy xs m):=fun h=>u (h x G.out).2
  have hd2:decide (x≥m)=true:=decide_eq_true (by omega)
  clear D
  go_wp2_with fail
  go_ret
  exact ⟨aO I.out,rfl⟩
 have J:k=n:=by omega
 subst J
 have R:decide ((k:Int)<(k:Int))=false:=by simp
 go_wp2_with fail
 go_ret
 refine ⟨dU fun x W=>?_,rfl⟩
 obtain ⟨j,hj,rfl⟩:=List.getElem_of_mem W
 have:=g.out j (by rw [←Q.out.1];exact hj)
 rwa [List.getElem?_eq_getElem hj,Option.getD_some] at this
theorem rD (l:ag) (SA LA OA:Option Addr) (sn sc ln lc on oc:Nat) (w:World) (hi:0<=l.inputs/\l.inputs<=20) (h1:sn<=12) (h2:ln<=400) (h3:on<=16) :
  Calls Tryz.prog 153 #[jE l SA LA OA sn sc ln lc on oc] w fun e w'=>e = .returned (.int .i64 (1+l.inputs+(sn:Int)+(ln:Int)))/\Below w.heap.size w w':=by
 have g:=Hd (aB (Below.refl w.heap.size w) (.cells (ai l SA LA OA sn sc ln lc on oc) 41))
 have j:Hid (inR l.inputs 0 20=true):=aR.2 hi
 have B:decide ((12:Int)<(sn:Int))=false:=decide_eq_false (by omega)
 have q:decide ((400:Int)<(ln:Int))=false:=decide_eq_false (by omega)
 have z:decide ((16:Int)<(on:Int))=false:=decide_eq_false (by omega)
 go_enter Tryz.func153,Tryz.ntmps153
 go_wp2_with fail
 refine (aj l.inputs 0 20 _).mono ?_
 rw [j.out]
 rintro _ u ⟨rfl,rfl⟩
 go_wp2_with fail
 go_ret
 exact ⟨rfl,g.out⟩
theorem yF (l:ag) (SA LA OA:Option Addr) (sn sc ln lc on oc:Nat) (w:World) (h:¬((0<=l.inputs/\l.inputs<=20)/\sn<=12/\ln<=400/\on<=16)) :
  Calls Tryz.prog 153 #[jE l SA LA OA sn sc ln lc on oc] w fun e w'=>e = .returned (.int .i64 0)/\Below w.heap.size w w':=by
 have g:=Hd (aB (Below.refl w.heap.size w) (.cells (ai l SA LA OA sn sc ln lc on oc) 41))
 cases hr:inR l.inputs 0 20 with
 | false =>
  have j:=Hd hr
  clear hr h
  go_enter Tryz.func153,Tryz.ntmps153
  go_wp2_with fail
  refine (aj l.inputs 0 20 _).mono ?_
  rw [j.out]
  rintro _ q ⟨rfl,rfl⟩
  go_wp2_with fail
  go_ret
  exact ⟨rfl,g.out⟩
 | true =>
  have j:=Hd hr
  have hi:=aR.1 hr
  clear hr
  by_cases h1:sn<=12
  ·have z:decide ((12:Int)<(sn:Int))=false:=decide_eq_false (by omega)
   by_cases h2:ln<=400
   ·have u:decide ((400:Int)<(ln:Int))=false:=decide_eq_false (by omega)
    have h3:¬on<=16:=fun h3=>h ⟨hi,h1,h2,h3⟩
    have B:decide ((16:Int)<(on:Int))=true:=decide_eq_true (by omega)
    clear h h1 h2 h3 hi
    go_enter Tryz.func153,Tryz.ntmps153
    go_wp2_with fail
    refine (aj l.inputs 0 20 _).mono ?_
    rw [j.out]
    rintro _ q ⟨rfl,rfl⟩
    go_wp2_with fail
    go_ret
    exact ⟨rfl,g.out⟩
   have u:decide ((400:Int)<(ln:Int))=true:=decide_eq_true (by omega)
   clear h h1 h2 hi
   go_enter Tryz.func153,Tryz.ntmps153
   go_wp2_with fail
   refine (aj l.inputs 0 20 _).mono ?_
   rw [j.out]
   rintro _ q ⟨rfl,rfl⟩
   go_wp2_with fail
   go_ret
   exact ⟨rfl,g.out⟩
  have z:decide ((12:Int)<(sn:Int))=true:=decide_eq_true (by omega)
  clear h h1 hi
  go_enter Tryz.func153,Tryz.ntmps153
  go_wp2_with fail
  refine (aj l.inputs 0 20 _).mono ?_
  rw [j.out]
  rintro _ q ⟨rfl,rfl⟩
  go_wp2_with fail
  go_ret
  exact ⟨rfl,g.out⟩
theorem zl (n:Nat) (w:World) (hn:n<=4) :
  Calls Tryz.prog 239 #[.int .i64 (n:Int)] w fun e w'=>e = .returned (.int .i64 (((2 ^ 2 ^ n:Nat):Int) - 1))/\w=w':=by
 have hc:n=0∨n=1∨n=2∨n=3∨n=4:=by omega
 rcases hc with rfl|rfl|rfl|rfl|rfl
 ·show Calls Tryz.prog 239 #[.int .i64 0] w fun e w'=>e = .returned (.int .i64 1)/\w=w'
  go_enter Tryz.func239,Tryz.ntmps239
  go_wp2
  go_ret
  exact ⟨rfl,rfl⟩
 ·show Calls Tryz.prog 239 #[.int .i64 1] w fun e w'=>e = .returned (.int .i64 3)/\w=w'
  go_enter Tryz.func239,Tryz.ntmps239
  go_wp2
  go_ret
  exact ⟨rfl,rfl⟩
 ·show Calls Tryz.prog 239 #[.int .i64 2] w fun e w'=>e = .returned (.int .i64 15)/\w=w'
  go_enter Tryz.func239,Tryz.ntmps239
  go_wp2
  go_ret
  exact ⟨rfl,rfl⟩
 ·show Calls Tryz.prog 239 #[.int .i64 3] w fun e w'=>e = .returned (.int .i64 255)/\w=w'
  go_enter Tryz.func239,Tryz.ntmps239
  go_wp2
  go_ret
  exact ⟨rfl,rfl⟩
 show Calls Tryz.prog 239 #[.int .i64 4] w fun e w'=>e = .returned (.int .i64 65535)/\w=w'
 go_enter Tryz.func239,Tryz.ntmps239
 go_wp2
 go_ret
 exact ⟨rfl,rfl⟩
theorem yG (n:Nat) (m:Int) (w:World) :
  Calls Tryz.prog 155 #[.agg #[.int .i64 (n:Int),.int .i64 m]] w fun e w'=>e = .returned (.bool (tb (iV n m)))/\Below w.heap.size w w':=by
 have B:=Hd (aB (Below.refl w.heap.size w) (.cells #[.int .i64 (n:Int),.int .i64 m] 188))
 have Y:=aI w (.cells #[.int .i64 (n:Int),.int .i64 m] 188)
 obtain ⟨R,Q,U⟩:=jv Y
 have D:Hid (iV n m↔inR (n:Int) 0 4=true/\0<=m/\m<=((2 ^ 2 ^ n:Nat):Int) - 1):=by
  show _↔_
  rw [aR]
  unfold iV
  have e:((2 ^ 2 ^ n:Nat):Int)=2 ^ 2 ^ n:=by simp
  rw [e]
  omega
 clear Y
 have I:=fun (x:Sub (w.alloc (.cells #[.int .i64 (n:Int),.int .i64 m] 188)))=>aj (n:Int) 0 4 x.v
 cases hr:inR (n:Int) 0 4 with
 | false =>
  rw [hr] at I
  have H:Hid (¬iV n m):=fun h=>by rw [(D.out.1 h).1] at hr;cases hr
  have J:=Hd I
  clear hr I D
  go_enter Tryz.func155,Tryz.ntmps155
  go_upto_region 1 with fail
  generalize w.alloc (.cells #[.int .i64 (n:Int),.int .i64 m] 188)=j at *
  have g:=aY j
  have u:=aP j
  refine wpB j ?_
  repeat (go_big_quiet_step ((first
   | (go_at_call 83;with_reducible exact aQ (J.out _)))))
  refine wpQuiet_nil ?_
  rintro _ ⟨⟨V,z⟩,rfl⟩
  clear g u
  have G:=Hd (aA B.out z)
  clear z R Q U
  go_wp2_with fail
  go_ret
  exact ⟨aO H.out,G.out⟩
 | true =>
  rw [hr] at I
  have J:=Hd I
  have W:n<=4:=by have:=aR.1 hr;omega
  have K:=Hd (fun (x:Sub (w.alloc (.cells #[.int .i64 (n:Int),.int .i64 m] 188)))=>zl n x.v W)
  have Z:=Hd hr
  clear hr I
  generalize ((2 ^ 2 ^ n:Nat):Int) - 1=q at *
  by_cases h0:0<=m
  ·have d0:decide (m≥0)=true:=decide_eq_true h0
   by_cases h1:m<=q
   ·have d1:decide (m<=q)=true:=decide_eq_true h1
    have H:Hid (iV n m):=D.out.2 ⟨Z.out,h0,h1⟩
    clear D h1
    go_enter Tryz.func155,Tryz.ntmps155
    go_upto_region 1 with fail
    generalize w.alloc (.cells #[.int .i64 (n:Int),.int .i64 m] 188)=j at *
    have g:=aY j
    have u:=aP j
    refine wpB j ?_
    repeat (go_big_quiet_step ((first
     | (go_at_call 83;with_reducible exact aQ (J.out _))
     | (go_at_call 239;with_reducible exact aQ (K.out _)))))
    refine wpQuiet_nil ?_
    rintro _ ⟨⟨V,z⟩,rfl⟩
    clear g u
    have G:=Hd (aA B.out z)
    clear z R Q U
    go_wp2_with fail
    go_ret
    exact ⟨dU H.out,G.out⟩
   have d1:decide (m<=q)=false:=decide_eq_false h1
   have H:Hid (¬iV n m):=fun h=>h1 (D.out.1 h).2.2
   clear D h1
   go_enter Tryz.func155,Tryz.ntmps155
   go_upto_region 1 with fail
   generalize w.alloc (.cells #[.int .i64 (n:Int),.int .i64 m] 188)=j at *
   have g:=aY j
   have u:=aP j
   refine wpB j ?_
   repeat (go_big_quiet_step ((first
    | (go_at_call 83;with_reducible exact aQ (J.out _))
    | (go_at_call 239;with_reducible exact aQ (K.out _)))))
   refine wpQuiet_nil ?_
   rintro _ ⟨⟨V,z⟩,rfl⟩
   clear g u
   have G:=Hd (aA B.out z)
   clear z R Q U
   go_wp2_with fail
   go_ret
   exact ⟨aO H.out,G.out⟩
  have d0:decide (m≥0)=false:=decide_eq_false h0
  have H:Hid (¬iV n m):=fun h=>h0 (D.out.1 h).2.1
  clear D h0
  go_enter Tryz.func155,Tryz.ntmps155
  go_upto_region 1 with fail
  generalize w.alloc (.cells #[.int .i64 (n:Int),.int .i64 m] 188)=j at *
  have g:=aY j
  have u:=aP j
  refine wpB j ?_
  repeat (go_big_quiet_step ((first
   | (go_at_call 83;with_reducible exact aQ (J.out _)))))
  refine wpQuiet_nil ?_
  rintro _ ⟨⟨V,z⟩,rfl⟩
  clear g u
  have G:=Hd (aA B.out z)
  clear z R Q U
  go_wp2_with fail
  go_ret
  exact ⟨aO H.out,G.out⟩
theorem dQ (l:ag) (SA LA OA:Option Addr) (sn sc ln lc on oc:Nat) (w:World) (h:fU w l SA LA OA sn sc ln lc on oc) :
  Calls Tryz.prog 81 #[jE l SA LA OA sn sc ln lc on oc] w fun e w'=>e = .returned (.bool (tb (az l)))/\Below w.heap.size w w':=by
 have u:=Hd (aB (Below.refl w.heap.size w) (.cells (ai l SA LA OA sn sc ln lc on oc) 41))
 have bq:=Hd (aI w (.cells (ai l SA LA OA sn sc ln lc on oc) 41))
 obtain ⟨aZ,aX,a6⟩:=h.lens
 obtain ⟨HN,V,W,a4⟩:=hd4 h aZ aX a6
 clear h aZ aX a6
 by_cases hz:(0<=l.inputs/\l.inputs<=20)/\sn<=12/\ln<=400/\on<=16
 ·obtain ⟨a5,aS,bx,bj⟩:=hz
  have HC:Hid ((l.count:Int)=1+l.inputs+(sn:Int)+(ln:Int)):=by show _=_;have:=V.out;have:=W.out;unfold ag.count ag.first;omega
  have a0:Hid ((l.first:Int)=1+l.inputs+(sn:Int)):=by show _=_;have:=V.out;unfold ag.first;omega
  have bK:((1+l.inputs+(sn:Int)+(ln:Int))==0)=false:=by simp;omega
  have aK:Hid (0<=1+l.inputs+(sn:Int)+(ln:Int)/\1+l.inputs+(sn:Int)+(ln:Int)<=1048576):=⟨by omega,by omega⟩
  have Y:=Hd a5
  clear a5
  go_enter Tryz.func81,Tryz.ntmps81
  go_wp2_with fail
  refine (rD l SA LA OA sn sc ln lc on oc _ Y.out aS bx bj).mono ?_
  rintro _ w1 ⟨rfl,b1⟩
  have K:=Hd b1
  have aM:=Hd (aD b1 bq.out)
  obtain ⟨-,x1,x2,x3,lx⟩:=cO aM.out
  clear b1
  go_wp2_with fail
  refine (mW OA on oc l.outs _ _ (HN.out.below (aA u.out K.out)).ou.ints (by omega) aK.out).mono ?_
  by_cases af:jy l.outs (1+l.inputs+(sn:Int)+(ln:Int))
  ·rw [ae af]
   have bs:=Hd af
   clear af
   rintro _ w2 ⟨rfl,rfl⟩
   go_wp2_with fail
   clear x1 x2 x3 lx
   go_loopw [4] (fun i wr=>∃k:Nat,k<=sn/\i = .int .i64 (k:Int)/\Below w1.heap.size w1 wr/\∀j,j<k→j5 (l.seqs[j]?.getD Sq.zero).kind (l.seqs[j]?.getD Sq.zero).init (l.seqs[j]?.getD Sq.zero).ins.length/\jy (l.seqs[j]?.getD Sq.zero).ins (1+l.inputs+(sn:Int)+(ln:Int))) (fun i _=>sn - (intOf i).toNat)
   ·exact ⟨0,by omega,rfl,Below.refl _ _,fun j hj=>by omega⟩
   obtain ⟨k,hk,rfl,hb,H⟩:=hrel
   obtain ⟨Q,B⟩:=hd2 hb H
   clear hb H
   by_cases bd:k<sn
   ·have bt:=dT (by omega:k<sn)
    have aG:=Hd (HN.out.below (aA (aA u.out K.out) Q.out))
    obtain ⟨b,o,S,m,p,rfl,bk,c0,c1,c2,r2⟩:=aG.out.sq.sq' (k:=k) (by rw [V.out];exact bd)
    have hm:(l.seqs[k]?.getD Sq.zero).ins.length=m:=r2.ints.1
    have aq:=Hd r2
    have J:Hid (j5 (l.seqs[k]?.getD Sq.zero).kind (l.seqs[k]?.getD Sq.zero).init m/\jy (l.seqs[k]?.getD Sq.zero).ins (1+l.inputs+(sn:Int)+(ln:Int))→∀j,j<k+1→j5 (l.seqs[j]?.getD Sq.zero).kind (l.seqs[j]?.getD Sq.zero).init (l.seqs[j]?.getD Sq.zero).ins.length/\jy (l.seqs[j]?.getD Sq.zero).ins (1+l.inputs+(sn:Int)+(ln:Int))):=fun h=>bW B.out (by rw [hm];exact h)
    have g:Hid (¬(j5 (l.seqs[k]?.getD Sq.zero).kind (l.seqs[k]?.getD Sq.zero).init m/\jy (l.seqs[k]?.getD Sq.zero).ins (1+l.inputs+(sn:Int)+(ln:Int)))→¬az l):=fun h hf=>h (by
     have h1:=hf.seqs k (by rw [V.out];exact bd)
     rw [hm] at h1
     exact ⟨h1.1,by rw [←HC.out];exact h1.2⟩)
    generalize l.seqs[k]?.getD Sq.zero=s at *
    obtain ⟨i0,i1⟩:=ib (by omega:k<sn)
    clear r2 hm
    have z:=Hd (aB (Below.refl wr.heap.size wr) (.cells #[.int .i64 s.kind,.int .i64 s.init,.slice S m p] 91))
    obtain ⟨y0,y1,y2,ly⟩:=jX (aI wr (.cells #[.int .i64 s.kind,.int .i64 s.init,.slice S m p] 91))
    obtain ⟨-,x1,lx⟩:=jv (aD Q.out aM.out)
    by_cases h0:s.kind=0
    ·have q0:(s.kind==0)=true:=by simp [h0]
     have q1:(s.kind==1)=false:=by simp [h0]
     cases hr:inR s.init 0 1 with
     | false =>
      have D:Hid (¬az l):=g.out fun h=>by
       rcases h.1 with h|h
       ·rw [aR.2 h.2.1] at hr;cases hr
       omega
      have HR:=Hd hr
      clear hr h0
      go_wp2_with fail
      refine (aj s.init 0 1 _).mono ?_
      rw [HR.out]
      rintro _ w' ⟨rfl,rfl⟩
      clear J g
      go_wp2_with fail
      go_ret
      exact ⟨aO D.out,aA (aA (aA u.out K.out) Q.out) z.out⟩
     | true =>
      have HR:=Hd hr
      by_cases G:m=1
      ·have d1:((m:Int)==1)=true:=by simp;omega
       have aU:Hid (j5 s.kind s.init m) := .inl ⟨h0,aR.1 hr,G⟩
       have bp:m<=4:=by omega
       clear hr h0 G
       go_wp2_with fail
       refine (aj s.init 0 1 _).mono ?_
       rw [HR.out]
       rintro _ w' ⟨rfl,rfl⟩
       go_wp2_with fail
       refine (mW S m p s.ins _ _ (aq.out.below z.out).ints (by omega) aK.out).mono ?_
       by_cases q:jy s.ins (1+l.inputs+(sn:Int)+(ln:Int))
       ·rw [ae q]
        have am:=Hd (J.out ⟨aU.out,q⟩)
        clear q J g
        rintro _ w4 ⟨rfl,rfl⟩
        clear y0 y1 y2 ly
        go_wp2_with fail
        go_roundw
        ·exact ⟨k+1,by omega,by go_num,aA Q.out z.out,am.out⟩
        simp [intOf];omega
       rw [bJ q]
       have D:=Hd (g.out fun h=>q h.2)
       clear q J g
       rintro _ w4 ⟨rfl,rfl⟩
       clear y0 y1 y2 ly
       go_wp2_with fail
       go_ret
       exact ⟨aO D.out,aA (aA (aA u.out K.out) Q.out) z.out⟩
      have d1:((m:Int)==1)=false:=by simp;omega
      have D:Hid (¬az l):=g.out fun h=>by
       rcases h.1 with h|h
       ·exact G h.2.2
       omega
      clear hr h0 G
      go_wp2_with fail
      refine (aj s.init 0 1 _).mono ?_
      rw [HR.out]
      rintro _ w' ⟨rfl,rfl⟩
      clear J g
      go_wp2_with fail
      go_ret
      exact ⟨aO D.out,aA (aA (aA u.out K.out) Q.out) z.out⟩
    have q0:(s.kind==0)=false:=by simp [h0]
    by_cases h1:s.kind=1
    ·have q1:(s.kind==1)=true:=by simp [h1]
     cases hr:inR s.init 0 31 with
     | false =>
      have D:Hid (¬az l):=g.out fun h=>by
       rcases h.1 with h|h
       ·omega
       rw [aR.2 h.2.1] at hr;cases hr
      have HR:=Hd hr
      clear hr h0 h1
      go_wp2_with fail
      refine (aj s.init 0 31 _).mono ?_
      rw [HR.out]
      rintro _ w' ⟨rfl,rfl⟩
      clear J g
      go_wp2_with fail
      go_ret
      exact ⟨aO D.out,aA (aA (aA u.out K.out) Q.out) z.out⟩
     | true =>
      have HR:=Hd hr
      by_cases G:m=4
      ·have d1:((m:Int)==4)=true:=by simp;omega
       have aU:Hid (j5 s.kind s.init m) := .inr ⟨h1,aR.1 hr,G⟩
       have bp:m<=4:=by omega
       clear hr h0 h1 G
       go_wp2_with fail
       refine (aj s.init 0 31 _).mono ?_
       rw [HR.out]
       rintro _ w' ⟨rfl,rfl⟩
       go_wp2_with fail
       refine (mW S m p s.ins _ _ (aq.out.below z.out).ints (by omega) aK.out).mono ?_
       by_cases q:jy s.ins (1+l.inputs+(sn:Int)+(ln:Int))
       ·rw [ae q]
        have am:=Hd (J.out ⟨aU.out,q⟩)
        clear q J g
        rintro _ w4 ⟨rfl,rfl⟩
        clear y0 y1 y2 ly
        go_wp2_with fail
        go_roundw
        ·exact ⟨k+1,by omega,by go_num,aA Q.out z.out,am.out⟩
        simp [intOf];omega
       rw [bJ q]
       have D:=Hd (g.out fun h=>q h.2)
       clear q J g
       rintro _ w4 ⟨rfl,rfl⟩
       clear y0 y1 y2 ly
       go_wp2_with fail
       go_ret
       exact ⟨aO D.out,aA (aA (aA u.out K.out) Q.out) z.out⟩
      have d1:((m:Int)==4)=false:=by simp;omega
      have D:Hid (¬az l):=g.out fun h=>by
       rcases h.1 with h|h
       ·omega
       exact G h.2.2
      clear hr h0 h1 G
      go_wp2_with fail
      refine (aj s.init 0 31 _).mono ?_
      rw [HR.out]
      rintro _ w' ⟨rfl,rfl⟩
      clear J g
      go_wp2_with fail
      go_ret
      exact ⟨aO D.out,aA (aA (aA u.out K.out) Q.out) z.out⟩
    have q1:(s.kind==1)=false:=by simp [h1]
    have D:Hid (¬az l):=g.out fun h=>by
     rcases h.1 with h|h
     ·exact h0 h.1
     exact h1 h.1
    clear h0 h1 J g
    go_wp2_with fail
    go_ret
    exact ⟨aO D.out,aA (aA (aA u.out K.out) Q.out) z.out⟩
   have bt:=dF (by omega:sn<=k)
   have aF:k=sn:=by omega
   have bv:Hid (∀j,j<sn→j5 (l.seqs[j]?.getD Sq.zero).kind (l.seqs[j]?.getD Sq.zero).init (l.seqs[j]?.getD Sq.zero).ins.length/\jy (l.seqs[j]?.getD Sq.zero).ins (1+l.inputs+(sn:Int)+(ln:Int))):=fun j hj=>B.out j (by omega)
   have aT:=Hd (aD Q.out aM.out)
   clear B aF
   obtain ⟨-,x1,lx⟩:=jv aT.out
   obtain ⟨wo,rfl⟩:∃y,y=wr:=⟨wr,rfl⟩
   go_wp2_with fail
   clear x1 lx
   go_loopw [6] (fun i wr=>∃k:Nat,k<=ln/\i = .int .i64 (k:Int)/\Below wo.heap.size wo wr/\∀j,j<k→iV (l.luts[j]?.getD Lt.zero).ins.length (l.luts[j]?.getD Lt.zero).mask/\jy (l.luts[j]?.getD Lt.zero).ins (1+l.inputs+(sn:Int)+(j:Int))) (fun i _=>ln - (intOf i).toNat)
   ·exact ⟨0,by omega,rfl,Below.refl _ _,fun j hj=>by omega⟩
   obtain ⟨k,hk,rfl,hb,H⟩:=hrel
   obtain ⟨U,B⟩:=hd2 hb H
   clear hb H
   have bm:=Hd (aD U.out aT.out)
   obtain ⟨-,-,z2,lz⟩:=jX bm.out
   by_cases aw:k<ln
   ·have bb:=dT (by omega:k<ln)
    have aG:=Hd (HN.out.below (aA (aA (aA u.out K.out) Q.out) U.out))
    have a7:=Hd (aD U.out aT.out)
    obtain ⟨b,o,S,m,p,rfl,bk,c0,c1,r2⟩:=aG.out.lt.lut' (k:=k) (by rw [W.out];exact aw)
    have hm:(l.luts[k]?.getD Lt.zero).ins.length=m:=r2.ints.1
    have aq:=Hd r2
    have J:Hid (iV m (l.luts[k]?.getD Lt.zero).mask/\jy (l.luts[k]?.getD Lt.zero).ins (1+l.inputs+(sn:Int)+(k:Int))→∀j,j<k+1→iV (l.luts[j]?.getD Lt.zero).ins.length (l.luts[j]?.getD Lt.zero).mask/\jy (l.luts[j]?.getD Lt.zero).ins (1+l.inputs+(sn:Int)+(j:Int))):=fun h=>bW B.out (by rw [hm];exact h)
    have g:Hid (¬(iV m (l.luts[k]?.getD Lt.zero).mask/\jy (l.luts[k]?.getD Lt.zero).ins (1+l.inputs+(sn:Int)+(k:Int)))→¬az l):=fun h hf=>h (by
     have h1:=hf.luts k (by rw [W.out];exact aw)
     rw [hm] at h1
     exact ⟨⟨h1.1,h1.2.1⟩,by rw [←a0.out];exact h1.2.2⟩)
    generalize l.luts[k]?.getD Lt.zero=s at *
    obtain ⟨i0,i1⟩:=ib (by omega:k<ln)
    clear r2 hm
    have ak:=Hd (aB (Below.refl wr.heap.size wr) (.cells #[.slice S m p,.int .i64 s.mask] 96))
    obtain ⟨y0,y1,ly⟩:=jv (aI wr (.cells #[.slice S m p,.int .i64 s.mask] 96))
    have a2:=aD ak.out a7.out
    obtain ⟨x0,x1,x2,x3,lx⟩:=cO a2
    have bP:wr.heap.size≠w.heap.size:=by have:=aC a7.out;omega
    go_upto_region 14 with fail
    generalize wr.alloc (.cells #[.slice S m p,.int .i64 s.mask] 96)=W9 at *
    have a3:=Hd (fun (x:Sub W9)=>nY l.inputs SA (some ⟨b,o,none⟩) OA sn sc ln lc on oc x.v Y.out.1 (by have:=Y.out;omega) (by omega))
    have bC:=Y.out.1
    have bE:=Y.out.2
    clear c0 c1 a2 z2 lz
    have ad:=fun (x:Sub W9)=>yG m s.mask x.v
    by_cases R:iV m s.mask
    ·rw [ae R] at ad
     have bM:m<=4:=R.1
     have ap:=Hd ad
     have Z:=fun (x:Sub W9)=>mW S m p s.ins (1+l.inputs+(sn:Int)+(k:Int)) x.v (aq.out.below (aA ak.out x.h)).ints (by omega) (by omega)
     have bn:=Hd R
     clear R ad
     by_cases q:jy s.ins (1+l.inputs+(sn:Int)+(k:Int))
     ·rw [ae q] at Z
      have aJ:=Hd Z
      have am:=Hd (J.out ⟨bn.out,q⟩)
      clear Z q J g
      have I:=aY W9
      have al:=aP W9
      refine wpB W9 ?_
      repeat (go_big_quiet_step ((first
       | (go_at_call 155;with_reducible exact aN (ap.out _))
       | (go_at_call 156;with_reducible exact aN (a3.out _))
       | (go_at_call 154;with_reducible exact aQ (aJ.out _)))))
      refine wpQuiet_nil ?_
      rintro _ ⟨⟨w5,hD⟩,rfl⟩
      clear I al
      have HD:=Hd (aA ak.out hD)
      clear hD x0 x1 x2 x3 lx y0 y1 ly
      go_wp2_with fail
      go_roundw
      ·exact ⟨k+1,by omega,by go_num,aA U.out HD.out,am.out⟩
      simp [intOf];omega
     rw [bJ q] at Z
     have aJ:=Hd Z
     have D:=Hd (g.out fun h=>q h.2)
     clear Z q J g
     have I:=aY W9
     have al:=aP W9
     refine wpB W9 ?_
     repeat (go_big_quiet_step ((first
      | (go_at_call 155;with_reducible exact aN (ap.out _))
      | (go_at_call 156;with_reducible exact aN (a3.out _))
      | (go_at_call 154;with_reducible exact aQ (aJ.out _)))))
     refine wpQuiet_nil ?_
     rintro _ ⟨⟨w5,hD⟩,rfl⟩
     clear I al
     have HD:=Hd (aA ak.out hD)
     clear hD x0 x1 x2 x3 lx y0 y1 ly
     go_wp2_with fail
     go_ret
     exact ⟨aO D.out,aA (aA (aA (aA u.out K.out) Q.out) U.out) HD.out⟩
    rw [bJ R] at ad
    have ap:=Hd ad
    have D:=Hd (g.out fun h=>R h.1)
    clear ad R J g
    have I:=aY W9
    have al:=aP W9
    refine wpB W9 ?_
    repeat (go_big_quiet_step ((first
     | (go_at_call 155;with_reducible exact aN (ap.out _)))))
    refine wpQuiet_nil ?_
    rintro _ ⟨⟨w5,hD⟩,rfl⟩
    clear I al
    have HD:=Hd (aA ak.out hD)
    clear hD x0 x1 x2 x3 lx y0 y1 ly
    go_wp2_with fail
    go_ret
    exact ⟨aO D.out,aA (aA (aA (aA u.out K.out) Q.out) U.out) HD.out⟩
   have bb:=dF (by omega:ln<=k)
   have aF:k=ln:=by omega
   have bo:Hid (∀j,j<ln→iV (l.luts[j]?.getD Lt.zero).ins.length (l.luts[j]?.getD Lt.zero).mask/\jy (l.luts[j]?.getD Lt.zero).ins (1+l.inputs+(sn:Int)+(j:Int))):=fun j hj=>B.out j (by omega)
   have bz:=Hd (aA (aA (aA u.out K.out) Q.out) U.out)
   have a9:Hid (az l):=⟨Y.out,by have:=V.out;omega,by have:=W.out;omega,by have:=a4.out;omega,by have:=bs.out;rw [←HC.out] at this;exact this,fun i hi=>by have:=bv.out i (by rw [←V.out];exact hi);rw [←HC.out] at this;exact this,fun i hi=>by have:=bo.out i (by rw [←W.out];exact hi);rw [←a0.out] at this;exact ⟨this.1.1,this.1.2,this.2⟩⟩
   clear B aF
   go_wp2_with fail
   go_ret
   exact ⟨dU a9.out,bz.out⟩
  rw [bJ af]
  have D:Hid (¬az l):=fun hf=>af (by rw [←HC.out];exact hf.outs)
  clear af
  rintro _ w2 ⟨rfl,rfl⟩
  go_wp2_with fail
  go_ret
  exact ⟨aO D.out,aA u.out K.out⟩
 have D:Hid (¬az l):=fun hf=>hz ⟨hf.inp,by have:=hf.nseq;have:=V.out;omega,by have:=hf.nlut;have:=W.out;omega,by have:=hf.nout;have:=a4.out;omega⟩
 go_enter Tryz.func81,Tryz.ntmps81
 go_wp2_with fail
 refine (yF l SA LA OA sn sc ln lc on oc _ hz).mono ?_
 rintro _ w1 ⟨rfl,b1⟩
 have K:=Hd b1
 clear b1 hz
 go_wp2_with fail
 go_ret
 exact ⟨aO D.out,aA u.out K.out⟩
theorem zm (l:ag) (SA LA OA:Option Addr) (sn sc ln lc on oc:Nat) (w:World) (h:fU w l SA LA OA sn sc ln lc on oc) (hf:az l) :
  Calls Tryz.prog 240 #[jE l SA LA OA sn sc ln lc on oc] w fun e w'=>∃A,e = .returned (.slice A l.count l.count)/\Own w.heap.size w' A l.count l.count (aG l.count (ko l))/\Below w.heap.size w w':=by
 have bm:=Hd (aB (Below.refl w.heap.size w) (.cells (ai l SA LA OA sn sc ln lc on oc) 41))
 have bh:=Hd (aI w (.cells (ai l SA LA OA sn sc ln lc on oc) 41))
 obtain ⟨aV,aT,a1⟩:=h.lens
 have h1:=hf.nseq
 have h2:=hf.nlut
 have h3:=hf.nout
 have bc:=Hd hf.inp
 have bj:=hf.inp
 obtain ⟨HN,HF,aF,aN,bF⟩:=hd5 h hf aT aV a1
 have hC:1+l.inputs+(sn:Int)+(ln:Int)=(l.count:Int):=by unfold ag.count ag.first;omega
 have aX:Hid ((l.first:Int)+(ln:Int)=(l.count:Int)):=by show _=_;unfold ag.count;omega
 obtain ⟨C,ax⟩:∃C,l.count=C:=⟨_,rfl⟩
 have aL:=Hd ax
 rw [ax] at hC
 have bH:C<=433:=by omega
 have D:sn<=12:=by omega
 have bo:ln<=400:=by omega
 have bb:on<=16:=by omega
 obtain ⟨i0,hi,a3,a6,a4⟩:=info_parts jL
 have aU:=fun W=>bv (P:=Tryz.prog) 26 3 i0 _ Tryz.underlying26 hi a3 .i64 .i64 C C (Nat.le_refl _) (by rw [a4];omega) (by omega) W
 rw [a6,Nat.mul_one,show (Value.int .i64 0).cells=#[Value.int .i64 0] from rfl,nu] at aU
 have HC:=Hd hC
 rw [ax]
 clear h hf aV aT a1 h1 h2 h3 ax hi a3 a6 a4 hC
 go_enter Tryz.func240,Tryz.ntmps240
 go_wp2_with fail
 refine (rD l SA LA OA sn sc ln lc on oc _ bc.out D bo bb).mono ?_
 rw [HC.out]
 rintro _ u ⟨rfl,b1⟩
 have Y:=Hd (aD b1 bh.out)
 have H:=Hd (aA bm.out b1)
 have aE:=(aJ.refl u).consOwn (aB (Below.refl _ _) (.cells (arr (List.replicate C 0)) 3)) (Own.arr (n:=C) (aI u _) (Nat.le_refl _) (by unfold maxLen;omega) (by simp))
 have bk:=Hd (show aJ u (u.alloc (.cells (arr (List.replicate C 0)) 3)) [.cel (aH (aG C ((l.luts.take 0).flatMap Lt.ins))) (.slice (some ⟨u.heap.size,0,none⟩) C C)] from by
  rw [List.take_zero,List.flatMap_nil,pu]
  exact aE)
 have bl:=Hd (aD aE.bel Y.out)
 clear b1 aE bj
 have hx:=bl.out
 obtain ⟨x0,x1,x2,x3,lx⟩:=cO hx
 have bD:w.heap.size≠u.heap.size:=by have:=aC Y.out;omega
 clear hx
 go_wp2_with fail
 clear x0 x1 x2 x3 lx aU
 go_loopw [4] (fun i wr=>∃k:Nat,k<=ln/\i = .int .i64 (k:Int)/\aJ u wr [.cel (aH (aG C ((l.luts.take k).flatMap Lt.ins))) (.slice (some ⟨u.heap.size,0,none⟩) C C)]) (fun i _=>ln - (intOf i).toNat)
 ·exact ⟨0,by omega,rfl,bk.out⟩
 obtain ⟨k,hk,rfl,hs⟩:=hrel
 have B:=Hd hs
 obtain ⟨-,-,x2,lx⟩:=jX (aD hs.bel Y.out)
 clear hs
 by_cases av:k<ln
 ·have aO:=dT (by omega:k<ln)
  obtain ⟨b,o,S,m,p,hA,ak,c0,c1,r2⟩:=HN.out.lt.lut' (k:=k) (by rw [aF.out];exact av)
  obtain ⟨CI,aP⟩:=hd2 c0 r2
  have V:k<l.luts.length:=by rw [aF.out];exact av
  have aj:=Hd (show ((l.luts.take k).flatMap Lt.ins)++(l.luts[k]?.getD Lt.zero).ins=(l.luts.take (k+1)).flatMap Lt.ins from by rw [wS V])
  have ar:Hid (∀n∈(l.luts[k]?.getD Lt.zero).ins,0<=n/\n<(C:Int)):=fun n hn=>by
   have h:=(HF.out.luts k V).2.2 n hn
   have h2:=aL.out
   have h3:=aX.out
   omega
  have ah:Hid (((l.luts.take k).flatMap Lt.ins).length+(l.luts[k]?.getD Lt.zero).ins.length<=3000):=by
   show _<=_
   have h1:=congrArg List.length aj.out
   rw [List.length_append] at h1
   have h2:=jM HF.out (k+1)
   have h3:=mf HF.out (k+1)
   have h4:=jM HF.out l.luts.length
   rw [List.take_length] at h4
   (try simp only [List.length_append] at h1 ⊢)
   omega
  subst hA
  clear r2 V c0 c1
  generalize l.luts[k]?.getD Lt.zero=x at *
  generalize (l.luts.take k).flatMap Lt.ins=Z at *
  obtain ⟨i0,i1⟩:=ib (by omega:k<ln)
  obtain ⟨wo,rfl⟩:∃y,y=wr:=⟨wr,rfl⟩
  go_wp2_with fail
  clear x2 lx
  go_loopw [5] (fun i wr=>∃j:Nat,j<=m/\i = .int .i64 (j:Int)/\aJ u wr [.cel (aH (aG C (lI (Z) (x.ins) j))) (.slice (some ⟨u.heap.size,0,none⟩) C C)]) (fun i _=>m - (intOf i).toNat)
  ·exact ⟨0,by omega,rfl,by rw [mg];exact B.out⟩
  obtain ⟨j,hj,rfl,hs⟩:=hrel
  have B:=Hd hs
  have g:=Hd (aP.out.ints)
  have hx:=aD hs.bel Y.out
  obtain ⟨-,-,x2,lx⟩:=jX hx
  have cI:=((aA H.out hs.bel).cell (p:=⟨b,o+k * 2,none⟩) ak).trans CI.out
  have be:=aK (aA H.out hs.bel) ak
  clear hx
  by_cases G:j<m
  ·have am:=dT (by omega:j<m)
   obtain ⟨bt,ot,hA,K,U⟩:=g.out.2 (by omega)
   have HA:=Hd hA
   have ao:=((aA H.out hs.bel).cell (p:=⟨bt,ot+j,none⟩) K).trans (U j G)
   have aZ:=aK (aA H.out hs.bel) K
   have z:j<(x.ins).length:=by rw [g.out.1];exact G
   have Q:=ar.out _ (List.getElem_mem z)
   have D:=mi (bs:=Z) z
   rw [List.getElem?_eq_getElem z,Option.getD_some] at ao D
   have R:=ol (Z) (x.ins) j
   have J:=ah.out
   have af:=g.out.1
   generalize (x.ins)[j]=x at *
   obtain ⟨X,rfl⟩:=Int.eq_ofNat_of_zero_le Q.1
   have aq:X<C:=by omega
   obtain ⟨cX,fX,lX,hN⟩:=om hs aq
   rw [D] at hN
   have al:=fC (lI (Z) (x.ins) j) (X:Int)
   have ap:=Hd hN
   clear hN D U hs
   generalize cnt (lI (Z) (x.ins) j) (X:Int)=q at *
   have hq:q<=10000:=by omega
   have aW:j<=10000:=by omega
   clear al R J af z Q
   obtain ⟨i0,i1⟩:=ib (by omega:j<m)
   obtain ⟨i2,i3⟩:=ib (by omega:X<C)
   subst hA
   go_wp2_with fail
   go_roundw
   ·exact ⟨j+1,by omega,by go_num,ap.out⟩
   simp [intOf];omega
  have I:j=m:=by omega
  have am:=dF (by omega:m<=j)
  have HD:=Hd (show aJ u wr [.cel (aH (aG C ((Z)++(x.ins)))) (.slice (some ⟨u.heap.size,0,none⟩) C C)] from by rw [←mh g.out.1,←I];exact hs)
  clear hs g B I
  have aM:=Hd (show aJ u wr [.cel (aH (aG C ((l.luts.take (k+1)).flatMap Lt.ins))) (.slice (some ⟨u.heap.size,0,none⟩) C C)] from by rw [←aj.out];exact HD.out)
  go_wp2_with fail
  go_roundw
  ·exact ⟨k+1,by omega,by go_num,aM.out⟩
  simp [intOf];omega
 have ae:k=ln:=by omega
 have aO:=dF (by omega:ln<=k)
 have bf:=Hd (show aJ u wr [.cel (aH (aG C (l.luts.flatMap Lt.ins++(l.seqs.take 0).flatMap Sq.ins))) (.slice (some ⟨u.heap.size,0,none⟩) C C)] from by
  have h:=B.out
  rw [ae,←aF.out,List.take_length] at h
  simpa using h)
 clear ae B
 obtain ⟨wo,rfl⟩:∃y,y=wr:=⟨wr,rfl⟩
 go_wp2_with fail
 clear x2 lx
 go_loopw [6] (fun i wr=>∃k:Nat,k<=sn/\i = .int .i64 (k:Int)/\aJ u wr [.cel (aH (aG C (l.luts.flatMap Lt.ins++(l.seqs.take k).flatMap Sq.ins))) (.slice (some ⟨u.heap.size,0,none⟩) C C)]) (fun i _=>sn - (intOf i).toNat)
 ·exact ⟨0,by omega,rfl,bf.out⟩
 obtain ⟨k,hk,rfl,hs⟩:=hrel
 have B:=Hd hs
 obtain ⟨-,x1,lx⟩:=jv (aD hs.bel Y.out)
 clear hs
 by_cases av:k<sn
 ·have aO:=dT (by omega:k<sn)
  obtain ⟨b,o,S,m,p,hA,ak,c0,c1,c2,r2⟩:=HN.out.sq.sq' (k:=k) (by rw [aN.out];exact av)
  obtain ⟨CI,aP⟩:=hd2 c2 r2
  have V:k<l.seqs.length:=by rw [aN.out];exact av
  have aj:=Hd (show (l.luts.flatMap Lt.ins++(l.seqs.take k).flatMap Sq.ins)++(l.seqs[k]?.getD Sq.zero).ins=l.luts.flatMap Lt.ins++(l.seqs.take (k+1)).flatMap Sq.ins from by rw [List.append_assoc,uZ V])
  have ar:Hid (∀n∈(l.seqs[k]?.getD Sq.zero).ins,0<=n/\n<(C:Int)):=fun n hn=>by
   have h:=(HF.out.seqs k V).2 n hn
   have h2:=aL.out
   have h3:=aX.out
   omega
  have ah:Hid ((l.luts.flatMap Lt.ins++(l.seqs.take k).flatMap Sq.ins).length+(l.seqs[k]?.getD Sq.zero).ins.length<=3000):=by
   show _<=_
   have h1:=congrArg List.length aj.out
   rw [List.length_append] at h1
   have h2:=jM HF.out (k+1)
   have h3:=mf HF.out (k+1)
   have h4:=jM HF.out l.luts.length
   rw [List.take_length] at h4
   (try simp only [List.length_append] at h1 ⊢)
   omega
  subst hA
  clear r2 V c0 c1 c2
  generalize l.seqs[k]?.getD Sq.zero=x at *
  generalize l.luts.flatMap Lt.ins++(l.seqs.take k).flatMap Sq.ins=Z at *
  obtain ⟨i0,i1⟩:=ib (by omega:k<sn)
  obtain ⟨wo,rfl⟩:∃y,y=wr:=⟨wr,rfl⟩
  go_wp2_with fail
  clear x1 lx
  go_loopw [7] (fun i wr=>∃j:Nat,j<=m/\i = .int .i64 (j:Int)/\aJ u wr [.cel (aH (aG C (lI (Z) (x.ins) j))) (.slice (some ⟨u.heap.size,0,none⟩) C C)]) (fun i _=>m - (intOf i).toNat)
  ·exact ⟨0,by omega,rfl,by rw [mg];exact B.out⟩
  obtain ⟨j,hj,rfl,hs⟩:=hrel
  have B:=Hd hs
  have g:=Hd (aP.out.ints)
  have hx:=aD hs.bel Y.out
  obtain ⟨-,x1,lx⟩:=jv hx
  have cI:=((aA H.out hs.bel).cell (p:=⟨b,o+k * 3+2,none⟩) ak).trans CI.out
  have be:=aK (aA H.out hs.bel) ak
  clear hx
  by_cases G:j<m
  ·have am:=dT (by omega:j<m)
   obtain ⟨bt,ot,hA,K,U⟩:=g.out.2 (by omega)
   have HA:=Hd hA
   have ao:=((aA H.out hs.bel).cell (p:=⟨bt,ot+j,none⟩) K).trans (U j G)
   have aZ:=aK (aA H.out hs.bel) K
   have z:j<(x.ins).length:=by rw [g.out.1];exact G
   have Q:=ar.out _ (List.getElem_mem z)
   have D:=mi (bs:=Z) z
   rw [List.getElem?_eq_getElem z,Option.getD_some] at ao D
   have R:=ol (Z) (x.ins) j
   have J:=ah.out
   have af:=g.out.1
   generalize (x.ins)[j]=x at *
   obtain ⟨X,rfl⟩:=Int.eq_ofNat_of_zero_le Q.1
   have aq:X<C:=by omega
   obtain ⟨cX,fX,lX,hN⟩:=om hs aq
   rw [D] at hN
   have al:=fC (lI (Z) (x.ins) j) (X:Int)
   have ap:=Hd hN
   clear hN D U hs
   generalize cnt (lI (Z) (x.ins) j) (X:Int)=q at *
   have hq:q<=10000:=by omega
   have aW:j<=10000:=by omega
   clear al R J af z Q
   obtain ⟨i0,i1⟩:=ib (by omega:j<m)
   obtain ⟨i2,i3⟩:=ib (by omega:X<C)
   subst hA
   go_wp2_with fail
   go_roundw
   ·exact ⟨j+1,by omega,by go_num,ap.out⟩
   simp [intOf];omega
  have I:j=m:=by omega
  have am:=dF (by omega:m<=j)
  have HD:=Hd (show aJ u wr [.cel (aH (aG C ((Z)++(x.ins)))) (.slice (some ⟨u.heap.size,0,none⟩) C C)] from by rw [←mh g.out.1,←I];exact hs)
  clear hs g B I
  have aM:=Hd (show aJ u wr [.cel (aH (aG C (l.luts.flatMap Lt.ins++(l.seqs.take (k+1)).flatMap Sq.ins))) (.slice (some ⟨u.heap.size,0,none⟩) C C)] from by rw [←aj.out];exact HD.out)
  go_wp2_with fail
  go_roundw
  ·exact ⟨k+1,by omega,by go_num,aM.out⟩
  simp [intOf];omega
 have ae:k=sn:=by omega
 have aO:=dF (by omega:sn<=k)
 have bd:=Hd (show aJ u wr [.cel (aH (aG C (l.luts.flatMap Lt.ins++l.seqs.flatMap Sq.ins))) (.slice (some ⟨u.heap.size,0,none⟩) C C)] from by
  have h:=B.out
  rwa [ae,←aN.out,List.take_length] at h)
 have ar:Hid (∀n∈l.outs,0<=n/\n<(C:Int)):=fun n hn=>by
  have h:=HF.out.outs n hn
  have h2:=aL.out
  omega
 have ah:Hid ((l.luts.flatMap Lt.ins++l.seqs.flatMap Sq.ins).length+l.outs.length<=3000):=by
  show _<=_
  have h3:=mf HF.out l.seqs.length
  have h4:=jM HF.out l.luts.length
  rw [List.take_length] at h3 h4
  have h5:=HF.out.nout
  rw [List.length_append]
  omega
 clear ae B
 obtain ⟨wo,rfl⟩:∃y,y=wr:=⟨wr,rfl⟩
 go_wp2_with fail
 clear x1 lx
 go_loopw [8] (fun i wr=>∃j:Nat,j<=on/\i = .int .i64 (j:Int)/\aJ u wr [.cel (aH (aG C (lI (l.luts.flatMap Lt.ins++l.seqs.flatMap Sq.ins) (l.outs) j))) (.slice (some ⟨u.heap.size,0,none⟩) C C)]) (fun i _=>on - (intOf i).toNat)
 ·exact ⟨0,by omega,rfl,by rw [mg];exact bd.out⟩
 obtain ⟨j,hj,rfl,hs⟩:=hrel
 have B:=Hd hs
 have g:=Hd (HN.out.ou.ints)
 obtain ⟨-,-,-,x3,lx⟩:=cO (aD hs.bel Y.out)
 by_cases G:j<on
 ·have am:=dT (by omega:j<on)
  obtain ⟨bt,ot,hA,K,U⟩:=g.out.2 (by omega)
  have HA:=Hd hA
  have ao:=((aA H.out hs.bel).cell (p:=⟨bt,ot+j,none⟩) K).trans (U j G)
  have aZ:=aK (aA H.out hs.bel) K
  have z:j<(l.outs).length:=by rw [g.out.1];exact G
  have Q:=ar.out _ (List.getElem_mem z)
  have D:=mi (bs:=l.luts.flatMap Lt.ins++l.seqs.flatMap Sq.ins) z
  rw [List.getElem?_eq_getElem z,Option.getD_some] at ao D
  have R:=ol (l.luts.flatMap Lt.ins++l.seqs.flatMap Sq.ins) (l.outs) j
  have J:=ah.out
  have af:=g.out.1
  generalize (l.outs)[j]=x at *
  obtain ⟨X,rfl⟩:=Int.eq_ofNat_of_zero_le Q.1
  have aq:X<C:=by omega
  obtain ⟨cX,fX,lX,hN⟩:=om hs aq
  rw [D] at hN
  have al:=fC (lI (l.luts.flatMap Lt.ins++l.seqs.flatMap Sq.ins) (l.outs) j) (X:Int)
  have ap:=Hd hN
  clear hN D U hs
  generalize cnt (lI (l.luts.flatMap Lt.ins++l.seqs.flatMap Sq.ins) (l.outs) j) (X:Int)=q at *
  have hq:q<=10000:=by omega
  have aW:j<=10000:=by omega
  clear al R J af z Q
  obtain ⟨i0,i1⟩:=ib (by omega:j<on)
  obtain ⟨i2,i3⟩:=ib (by omega:X<C)
  subst hA
  go_wp2_with fail
  go_roundw
  ·exact ⟨j+1,by omega,by go_num,ap.out⟩
  simp [intOf];omega
 have I:j=on:=by omega
 have am:=dF (by omega:on<=j)
 have HD:=Hd (show aJ u wr [.cel (aH (aG C ((l.luts.flatMap Lt.ins++l.seqs.flatMap Sq.ins)++(l.outs)))) (.slice (some ⟨u.heap.size,0,none⟩) C C)] from by rw [←mh g.out.1,←I];exact hs)
 clear hs g B I
 go_wp2_with fail
 go_ret
 exact ⟨_,rfl,(HD.out.owned 0 rfl).more (by have:=H.out.size;omega),aA H.out HD.out.bel⟩
theorem rV (l:ag) (SA LA OA:Option Addr) (sn sc ln lc on oc:Nat) (a b:Int) (w:World) (h:fU w l SA LA OA sn sc ln lc on oc) (hf:az l) (he:dG l ⟨a,b⟩) :
  Calls Tryz.prog 204 #[jE l SA LA OA sn sc ln lc on oc,.agg #[.int .i64 a,.int .i64 b]] w fun e w'=>e = .returned (.int .i64 (dA l ⟨a,b⟩))/\Below w.heap.size w w':=by
 have g:dA l ⟨a,b⟩=if 0<=b then 1+l.inputs+b else (l.first:Int)+a:=rfl
 obtain ⟨e1,e2,e3,_⟩:=nI.1 he
 have u:=h.lens.1
 have z:=h.lens.2.1
 rw [u] at e2
 rw [z] at e1
 clear u z
 have K:=Hd (aB (aB (Below.refl w.heap.size w) (.cells (ai l SA LA OA sn sc ln lc on oc) 41)) (.cells #[.int .i64 a,.int .i64 b] 94))
 have hx:=aW (.cells #[.int .i64 a,.int .i64 b] 94) (aI w (.cells (ai l SA LA OA sn sc ln lc on oc) 41))
 have hy:=aI (w.alloc (.cells (ai l SA LA OA sn sc ln lc on oc) 41)) (.cells #[.int .i64 a,.int .i64 b] 94)
 simp only [World.size_alloc] at hy
 obtain ⟨q,j⟩:=hd2 hx hy
 clear hx hy
 obtain ⟨G,B,D⟩:=h.lens
 have V:=hf.nseq
 have Z:=hf.nlut
 have R:=hf.nout
 have Q:=hf.inp
 rw [G] at V
 rw [B] at Z
 rw [D] at R
 obtain ⟨HN,HF,aw,au,ay⟩:=hd5 h hf G B D
 have W:Hid ((l.first:Int)=1+l.inputs+(sn:Int)):=by show _=_;unfold ag.first;omega
 have av:Hid ((l.count:Int)=1+l.inputs+(sn:Int)+(ln:Int)):=by show _=_;unfold ag.count ag.first;omega
 clear h hf G B D
 by_cases h0:0<=b
 ·have d0:decide (b≥0)=true:=decide_eq_true h0
  rw [if_pos h0] at g
  have H:=Hd g
  clear g e1 e3
  go_enter Tryz.func204,Tryz.ntmps204
  go_upto_region 1 with fail
  generalize (w.alloc (.cells (ai l SA LA OA sn sc ln lc on oc) 41)).alloc (.cells #[.int .i64 a,.int .i64 b] 94)=J at *
  have x0:=aF (k:=0) q.out rfl
  have y1:=aF (k:=1) j.out rfl
  have lx:=aC q.out
  have ly:=aC j.out
  go_wp2_with fail
  go_ret
  exact ⟨aL H.out.symm,K.out⟩
 have d0:decide (b≥0)=false:=decide_eq_false h0
 rw [if_neg h0,W.out] at g
 have H:=Hd g
 have ha:0<=a:=by omega
 clear g e2 e3 h0
 go_enter Tryz.func204,Tryz.ntmps204
 go_upto_region 1 with fail
 generalize (w.alloc (.cells (ai l SA LA OA sn sc ln lc on oc) 41)).alloc (.cells #[.int .i64 a,.int .i64 b] 94)=J at *
 obtain ⟨x0,x1,x2,x3⟩:=cs4 q.out
 obtain ⟨y0,y1⟩:=cs2 j.out
 have lx:=aC q.out
 have ly:=aC j.out
 go_upto_region 3 with fail
 have U:=Hd (fun (x:Sub J)=>nY l.inputs SA LA OA sn sc ln lc on oc x.v Q.1 (by omega) (by omega))
 have I:=aY J
 have Y:=aP J
 refine wpB J ?_
 repeat (go_big_quiet_step ((first
  | (go_at_call 156;with_reducible exact aN (U.out _)))))
 refine wpQuiet_nil ?_
 rintro _ ⟨⟨w5,hD⟩,rfl⟩
 clear I Y
 have HD:=Hd (aA K.out hD)
 clear x0 x1 x2 x3 y0 y1 lx ly hD
 go_wp2_with fail
 go_ret
 exact ⟨aL H.out.symm,HD.out⟩
theorem Di (l:ag) (SA LA OA:Option Addr) (sn sc ln lc on oc:Nat) (a b:Int) (w:World) (h:fU w l SA LA OA sn sc ln lc on oc) (hf:az l) :
  Calls Tryz.prog 254 #[jE l SA LA OA sn sc ln lc on oc,.agg #[.int .i64 a,.int .i64 b]] w fun e w'=>e = .returned (.bool (tb (dG l ⟨a,b⟩)))/\Below w.heap.size w w':=by
 have B:=nI (l:=l) (a:=a) (b:=b)
 have aE:=h.lens.1
 have aH:=h.lens.2.1
 rw [aE,aH] at B
 clear aE aH
 have u:=Hd (aB (aB (Below.refl w.heap.size w) (.cells (ai l SA LA OA sn sc ln lc on oc) 41)) (.cells #[.int .i64 a,.int .i64 b] 94))
 have hx:=aW (.cells #[.int .i64 a,.int .i64 b] 94) (aI w (.cells (ai l SA LA OA sn sc ln lc on oc) 41))
 have hy:=aI (w.alloc (.cells (ai l SA LA OA sn sc ln lc on oc) 41)) (.cells #[.int .i64 a,.int .i64 b] 94)
 simp only [World.size_alloc] at hy
 obtain ⟨j,g⟩:=hd2 hx hy
 clear hx hy
 obtain ⟨aM,aJ,aV⟩:=h.lens
 have bh:=hf.nseq
 have bt:=hf.nlut
 have bg:=hf.nout
 have aU:=hf.inp
 rw [aM] at bh
 rw [aJ] at bt
 rw [aV] at bg
 obtain ⟨HN,HF,a6,bF,bK⟩:=hd5 h hf aM aJ aV
 have a1:Hid ((l.first:Int)=1+l.inputs+(sn:Int)):=by show _=_;unfold ag.first;omega
 have a3:Hid ((l.count:Int)=1+l.inputs+(sn:Int)+(ln:Int)):=by show _=_;unfold ag.count ag.first;omega
 clear h hf aM aJ aV
 cases ae:inR a (-1) ((ln:Int) - 1) with
 | false =>
  have I:Hid (¬dG l ⟨a,b⟩):=fun h=>by
   have h2:=(B.1 h).1
   rw [aR.2 ⟨h2.1,by omega⟩] at ae
   cases ae
  have H1:=Hd ae
  clear ae B
  go_enter Tryz.func254,Tryz.ntmps254
  go_upto_region 1 with fail
  generalize (w.alloc (.cells (ai l SA LA OA sn sc ln lc on oc) 41)).alloc (.cells #[.int .i64 a,.int .i64 b] 94)=D at *
  have J:=aF (k:=2) j.out rfl
  have y0:=aF (k:=0) g.out rfl
  have Q:=aC j.out
  have V:=aC g.out
  go_wp2_with fail
  refine (aj a (-1) ((ln:Int) - 1) _).mono ?_
  rw [H1.out]
  rintro _ w' ⟨rfl,rfl⟩
  go_wp2_with fail
  go_ret
  exact ⟨aO I.out,u.out⟩
 | true =>
  have ha:=aR.1 ae
  have H1:=Hd ae
  clear ae
  cases ad:inR b (-1) ((sn:Int) - 1) with
  | false =>
   have I:Hid (¬dG l ⟨a,b⟩):=fun h=>by
    have h2:=(B.1 h).2.1
    rw [aR.2 ⟨h2.1,by omega⟩] at ad
    cases ad
   have H2:=Hd ad
   clear ad B
   go_enter Tryz.func254,Tryz.ntmps254
   go_upto_region 1 with fail
   generalize (w.alloc (.cells (ai l SA LA OA sn sc ln lc on oc) 41)).alloc (.cells #[.int .i64 a,.int .i64 b] 94)=D at *
   obtain ⟨-,Y,J⟩:=cs3 j.out
   obtain ⟨y0,Z⟩:=cs2 g.out
   have Q:=aC j.out
   have V:=aC g.out
   go_wp2_with fail
   refine (aj a (-1) ((ln:Int) - 1) _).mono ?_
   rw [H1.out]
   rintro _ w' ⟨rfl,rfl⟩
   go_wp2_with fail
   refine (aj b (-1) ((sn:Int) - 1) _).mono ?_
   rw [H2.out]
   rintro _ w' ⟨rfl,rfl⟩
   go_wp2_with fail
   go_ret
   exact ⟨aO I.out,u.out⟩
  | true =>
   have hb:=aR.1 ad
   have H2:=Hd ad
   clear ad
   by_cases hn:a=-1/\b=-1
   ·have I:Hid (¬dG l ⟨a,b⟩):=fun h=>(B.1 h).2.2.1 hn
    obtain ⟨rfl,rfl⟩:=hn
    clear B
    go_enter Tryz.func254,Tryz.ntmps254
    go_upto_region 1 with fail
    generalize (w.alloc (.cells (ai l SA LA OA sn sc ln lc on oc) 41)).alloc (.cells #[.int .i64 (-1),.int .i64 (-1)] 94)=D at *
    obtain ⟨-,Y,J⟩:=cs3 j.out
    obtain ⟨y0,Z⟩:=cs2 g.out
    have Q:=aC j.out
    have V:=aC g.out
    go_wp2_with fail
    refine (aj (-1) (-1) ((ln:Int) - 1) _).mono ?_
    rw [H1.out]
    rintro _ w' ⟨rfl,rfl⟩
    go_wp2_with fail
    refine (aj (-1) (-1) ((sn:Int) - 1) _).mono ?_
    rw [H2.out]
    rintro _ w' ⟨rfl,rfl⟩
    go_wp2_with fail
    go_ret
    exact ⟨aO I.out,u.out⟩
   have ah:True:=trivial
   have aw:decide (a<0)=false∨decide (a<0)=true/\decide (b<0)=false:=by simp;omega
   by_cases aS:0<=b
   ·have d1:decide (b≥0)=true:=decide_eq_true aS
    have db:decide (b<0)=false:=by simp;omega
    obtain ⟨F,rfl⟩:∃F:Nat,b=(F:Int):=⟨b.toNat,by omega⟩
    rw [Int.toNat_natCast] at B
    have hF:F<sn:=by omega
    obtain ⟨bs,os,IA,im,ic,rfl,aT,c0,c1,c2,r2⟩:=HN.out.sq.sq' (k:=F) (by rw [a6.out];exact hF)
    have bL:(l.seqs[F]?.getD Sq.zero).ins.length=im:=r2.ints.1
    have a8:=(HF.out.seqs F (by rw [a6.out];exact hF)).1
    have H:=aK u.out aT
    rw [←u.out.cell (p:=⟨bs,os+F * 3,none⟩) aT] at c0
    rw [←u.out.cell (p:=⟨bs,os+F * 3+2,none⟩) aT] at c2
    have bq:=Hd r2
    clear c1 r2
    generalize l.seqs[F]?.getD Sq.zero=s at *
    by_cases hk:s.kind=0
    ·have dk:(s.kind==0)=true:=by simp [hk]
     have bk:(s.kind != 0)=false:=by simp [hk]
     by_cases a5:0<=a
     ·have d2:decide (a<0)=false:=decide_eq_false (by omega)
      have da:decide (a<0)=false:=by simp;omega
      obtain ⟨A,rfl⟩:∃A:Nat,a=(A:Int):=⟨a.toNat,by omega⟩
      have hA:A<ln:=by omega
      have ay:0<im:=by rcases a8 with h|h <;> omega
      obtain ⟨K,hK⟩:∃K:Nat,1+l.inputs+(sn:Int)+(A:Int)=(K:Int):=⟨(1+l.inputs+(sn:Int)+(A:Int)).toNat,by omega⟩
      have ap:K<l.count:=by have:=a3.out;omega
      have aZ:Ad l ((l.first:Int)+(A:Int))=cnt (ko l) (K:Int):=by rw [ym,a1.out,hK]
      have a2:(l.first:Int)+(A:Int)=(K:Int):=by rw [a1.out,hK]
      rw [aZ,a2] at B
      have bl:l.count<=1048576:=by have:=a3.out;omega
      have HK:=Hd hK
      obtain ⟨bi,oi,rfl,a7,a0⟩:=bq.out.ints.2 ay
      have ci:=a0 0 ay
      have G:=aK u.out a7
      rw [←u.out.cell (p:=⟨bi,oi+0,none⟩) a7,Nat.add_zero] at ci
      clear a0 a8 ah aw aZ a2 hK
      generalize s.ins[0]?.getD 0=y at *
      have HU:=Hd (fun (v:World) (hv:Below w.heap.size w v)=>zm l (some ⟨bs,os,none⟩) LA OA sn sc ln lc on oc v (HN.out.below hv) HF.out)
      obtain ⟨C,hC⟩:∃C,l.count=C:=⟨_,rfl⟩
      rw [hC] at ap bl HU
      have HC:=Hd hC
      clear hC
      by_cases hy:y=(K:Int)
      ·by_cases hq:cnt (ko l) (K:Int)=1
       ·have I:Hid (dG l ⟨(A:Int),(F:Int)⟩):=B.2 ⟨⟨by omega,by omega⟩,⟨by omega,by omega⟩,by omega,fun _=>hk,fun _ _=>⟨hy,hq⟩⟩
        have HQ:=Hd hq
        subst hy
        clear B hq hk
        go_enter Tryz.func254,Tryz.ntmps254
        go_upto_region 1 with fail
        generalize (w.alloc (.cells (ai l (some ⟨bs,os,none⟩) LA OA sn sc ln lc on oc) 41)).alloc (.cells #[.int .i64 (A:Int),.int .i64 (F:Int)] 94)=D at *
        obtain ⟨x0,Y,J,x3⟩:=cs4 j.out
        obtain ⟨y0,Z⟩:=cs2 g.out
        have Q:=aC j.out
        have V:=aC g.out
        go_wp2_with fail
        refine (aj (A:Int) (-1) ((ln:Int) - 1) _).mono ?_
        rw [H1.out]
        rintro _ w' ⟨rfl,rfl⟩
        go_wp2_with fail
        refine (aj (F:Int) (-1) ((sn:Int) - 1) _).mono ?_
        rw [H2.out]
        rintro _ w' ⟨rfl,rfl⟩
        go_upto_region 7 with fail
        have ak:=Hd (fun (x:Sub D)=>nY l.inputs (some ⟨bs,os,none⟩) LA OA sn sc ln lc on oc x.v aU.1 (by omega) (by omega))
        have U:=aY D
        have al:=aP D
        refine wpB D ?_
        repeat (go_big_quiet_step ((first
         | (go_at_call 156;with_reducible exact aN (ak.out _)))))
        refine wpQuiet_nil ?_
        rintro _ ⟨⟨w5,z⟩,rfl⟩
        clear U al
        rw [HK.out]
        have HD:=Hd (aA u.out z)
        have W:=Hd (aD z j.out)
        have R:=Hd (aD z g.out)
        have aG:=aK z H
        have ax:=aK z G
        rw [←z.cell (p:=⟨bs,os+F * 3+2,none⟩) H] at c2
        rw [←z.cell (p:=⟨bi,oi,none⟩) G] at ci
        clear x0 Y J x3 y0 Z Q V z c0 H G
        obtain ⟨x0,Y,J,x3⟩:=cs4 W.out
        have Z:=aF (k:=1) R.out rfl
        have Q:=aC W.out
        have V:=aC R.out
        go_wp2_with fail
        refine (HU.out _ HD.out).mono ?_
        rintro _ w6 ⟨UA,rfl,o6,b6⟩
        have aL:=Hd (aA HD.out b6)
        obtain ⟨bu,ou,rfl,br,ao⟩:=o6.ints.2 (by omega)
        have cu:=ao K ap
        rw [jb _ ap,HQ.out] at cu
        clear o6 b6 ao x0 Y J x3 Z Q V c2 ci
        go_wp2_with fail
        go_ret
        exact ⟨dU I.out,aL.out⟩
       have I:Hid (¬dG l ⟨(A:Int),(F:Int)⟩):=fun h=>hq ((B.1 h).2.2.2.2 (by omega) (by omega)).2
       have bE:=fC (ko l) (K:Int)
       have HQ:=Hd hq
       subst hy
       clear B hq hk
       go_enter Tryz.func254,Tryz.ntmps254
       go_upto_region 1 with fail
       generalize (w.alloc (.cells (ai l (some ⟨bs,os,none⟩) LA OA sn sc ln lc on oc) 41)).alloc (.cells #[.int .i64 (A:Int),.int .i64 (F:Int)] 94)=D at *
       obtain ⟨x0,Y,J,x3⟩:=cs4 j.out
       obtain ⟨y0,Z⟩:=cs2 g.out
       have Q:=aC j.out
       have V:=aC g.out
       go_wp2_with fail
       refine (aj (A:Int) (-1) ((ln:Int) - 1) _).mono ?_
       rw [H1.out]
       rintro _ w' ⟨rfl,rfl⟩
       go_wp2_with fail
       refine (aj (F:Int) (-1) ((sn:Int) - 1) _).mono ?_
       rw [H2.out]
       rintro _ w' ⟨rfl,rfl⟩
       go_upto_region 7 with fail
       have ak:=Hd (fun (x:Sub D)=>nY l.inputs (some ⟨bs,os,none⟩) LA OA sn sc ln lc on oc x.v aU.1 (by omega) (by omega))
       have U:=aY D
       have al:=aP D
       refine wpB D ?_
       repeat (go_big_quiet_step ((first
        | (go_at_call 156;with_reducible exact aN (ak.out _)))))
       refine wpQuiet_nil ?_
       rintro _ ⟨⟨w5,z⟩,rfl⟩
       clear U al
       rw [HK.out]
       have HD:=Hd (aA u.out z)
       have W:=Hd (aD z j.out)
       have R:=Hd (aD z g.out)
       have aG:=aK z H
       have ax:=aK z G
       rw [←z.cell (p:=⟨bs,os+F * 3+2,none⟩) H] at c2
       rw [←z.cell (p:=⟨bi,oi,none⟩) G] at ci
       clear x0 Y J x3 y0 Z Q V z c0 H G
       obtain ⟨x0,Y,J,x3⟩:=cs4 W.out
       have Z:=aF (k:=1) R.out rfl
       have Q:=aC W.out
       have V:=aC R.out
       go_wp2_with fail
       refine (HU.out _ HD.out).mono ?_
       rintro _ w6 ⟨UA,rfl,o6,b6⟩
       have aL:=Hd (aA HD.out b6)
       obtain ⟨bu,ou,rfl,br,ao⟩:=o6.ints.2 (by omega)
       have cu:=ao K ap
       rw [jb _ ap] at cu
       clear o6 b6 ao x0 Y J x3 Z Q V c2 ci
       generalize cnt (ko l) (K:Int)=q at *
       have dq:(((q:Nat):Int)==1)=false:=by have:=HQ.out;simp;omega
       go_wp2_with fail
       go_ret
       exact ⟨aO I.out,aL.out⟩
      have I:Hid (¬dG l ⟨(A:Int),(F:Int)⟩):=fun h=>hy ((B.1 h).2.2.2.2 (by omega) (by omega)).1
      have dy:(y==(K:Int))=false:=by simp;exact hy
      clear B hk hy
      go_enter Tryz.func254,Tryz.ntmps254
      go_upto_region 1 with fail
      generalize (w.alloc (.cells (ai l (some ⟨bs,os,none⟩) LA OA sn sc ln lc on oc) 41)).alloc (.cells #[.int .i64 (A:Int),.int .i64 (F:Int)] 94)=D at *
      obtain ⟨x0,Y,J,x3⟩:=cs4 j.out
      obtain ⟨y0,Z⟩:=cs2 g.out
      have Q:=aC j.out
      have V:=aC g.out
      go_wp2_with fail
      refine (aj (A:Int) (-1) ((ln:Int) - 1) _).mono ?_
      rw [H1.out]
      rintro _ w' ⟨rfl,rfl⟩
      go_wp2_with fail
      refine (aj (F:Int) (-1) ((sn:Int) - 1) _).mono ?_
      rw [H2.out]
      rintro _ w' ⟨rfl,rfl⟩
      go_upto_region 7 with fail
      have ak:=Hd (fun (x:Sub D)=>nY l.inputs (some ⟨bs,os,none⟩) LA OA sn sc ln lc on oc x.v aU.1 (by omega) (by omega))
      have U:=aY D
      have al:=aP D
      refine wpB D ?_
      repeat (go_big_quiet_step ((first
       | (go_at_call 156;with_reducible exact aN (ak.out _)))))
      refine wpQuiet_nil ?_
      rintro _ ⟨⟨w5,z⟩,rfl⟩
      clear U al
      rw [HK.out]
      have HD:=Hd (aA u.out z)
      have W:=Hd (aD z j.out)
      have R:=Hd (aD z g.out)
      have aG:=aK z H
      have ax:=aK z G
      rw [←z.cell (p:=⟨bs,os+F * 3+2,none⟩) H] at c2
      rw [←z.cell (p:=⟨bi,oi,none⟩) G] at ci
      clear x0 Y J x3 y0 Z Q V z c0 H G
      obtain ⟨x0,Y,J,x3⟩:=cs4 W.out
      have Z:=aF (k:=1) R.out rfl
      have Q:=aC W.out
      have V:=aC R.out
      go_wp2_with fail
      go_ret
      exact ⟨aO I.out,HD.out⟩
     have I:Hid (dG l ⟨a,(F:Int)⟩):=B.2 ⟨⟨by omega,by omega⟩,⟨by omega,by omega⟩,hn,fun _=>hk,fun h=>absurd h a5⟩
     have d2:decide (a<0)=true:=decide_eq_true (by omega)
     obtain rfl:a=-1:=by omega
     clear B hk aw ah hn a5
     go_enter Tryz.func254,Tryz.ntmps254
     go_upto_region 1 with fail
     generalize (w.alloc (.cells (ai l (some ⟨bs,os,none⟩) LA OA sn sc ln lc on oc) 41)).alloc (.cells #[.int .i64 (-1),.int .i64 (F:Int)] 94)=D at *
     obtain ⟨-,Y,J⟩:=cs3 j.out
     obtain ⟨y0,Z⟩:=cs2 g.out
     have Q:=aC j.out
     have V:=aC g.out
     go_wp2_with fail
     refine (aj (-1) (-1) ((ln:Int) - 1) _).mono ?_
     rw [H1.out]
     rintro _ w' ⟨rfl,rfl⟩
     go_wp2_with fail
     refine (aj (F:Int) (-1) ((sn:Int) - 1) _).mono ?_
     rw [H2.out]
     rintro _ w' ⟨rfl,rfl⟩
     go_wp2_with fail
     go_ret
     exact ⟨dU I.out,u.out⟩
    have bk:(s.kind != 0)=true:=by simp;exact hk
    have I:Hid (¬dG l ⟨a,(F:Int)⟩):=fun h=>hk ((B.1 h).2.2.2.1 (by omega))
    clear B hk
    rcases aw with da|⟨da,_⟩
    ·clear ah
     go_enter Tryz.func254,Tryz.ntmps254
     go_upto_region 1 with fail
     generalize (w.alloc (.cells (ai l (some ⟨bs,os,none⟩) LA OA sn sc ln lc on oc) 41)).alloc (.cells #[.int .i64 a,.int .i64 (F:Int)] 94)=D at *
     obtain ⟨-,Y,J⟩:=cs3 j.out
     obtain ⟨y0,Z⟩:=cs2 g.out
     have Q:=aC j.out
     have V:=aC g.out
     go_wp2_with fail
     refine (aj a (-1) ((ln:Int) - 1) _).mono ?_
     rw [H1.out]
     rintro _ w' ⟨rfl,rfl⟩
     go_wp2_with fail
     refine (aj (F:Int) (-1) ((sn:Int) - 1) _).mono ?_
     rw [H2.out]
     rintro _ w' ⟨rfl,rfl⟩
     go_wp2_with fail
     go_ret
     exact ⟨aO I.out,u.out⟩
    clear ah
    go_enter Tryz.func254,Tryz.ntmps254
    go_upto_region 1 with fail
    generalize (w.alloc (.cells (ai l (some ⟨bs,os,none⟩) LA OA sn sc ln lc on oc) 41)).alloc (.cells #[.int .i64 a,.int .i64 (F:Int)] 94)=D at *
    obtain ⟨-,Y,J⟩:=cs3 j.out
    obtain ⟨y0,Z⟩:=cs2 g.out
    have Q:=aC j.out
    have V:=aC g.out
    go_wp2_with fail
    refine (aj a (-1) ((ln:Int) - 1) _).mono ?_
    rw [H1.out]
    rintro _ w' ⟨rfl,rfl⟩
    go_wp2_with fail
    refine (aj (F:Int) (-1) ((sn:Int) - 1) _).mono ?_
    rw [H2.out]
    rintro _ w' ⟨rfl,rfl⟩
    go_wp2_with fail
    go_ret
    exact ⟨aO I.out,u.out⟩
   have d1:decide (b≥0)=false:=decide_eq_false aS
   obtain rfl:b=-1:=by omega
   have da:decide (a<0)=false:=by simp;omega
   have I:Hid (dG l ⟨a,-1⟩):=B.2 ⟨⟨by omega,by omega⟩,⟨by omega,by omega⟩,hn,fun h=>by omega,fun _ h=>by omega⟩
   have d2:decide (a<0)=false:=decide_eq_false (by omega)
   clear B hn aS aw ah
   go_enter Tryz.func254,Tryz.ntmps254
   go_upto_region 1 with fail
   generalize (w.alloc (.cells (ai l SA LA OA sn sc ln lc on oc) 41)).alloc (.cells #[.int .i64 a,.int .i64 (-1)] 94)=D at *
   obtain ⟨-,Y,J⟩:=cs3 j.out
   obtain ⟨y0,Z⟩:=cs2 g.out
   have Q:=aC j.out
   have V:=aC g.out
   go_wp2_with fail
   refine (aj a (-1) ((ln:Int) - 1) _).mono ?_
   rw [H1.out]
   rintro _ w' ⟨rfl,rfl⟩
   go_wp2_with fail
   refine (aj (-1) (-1) ((sn:Int) - 1) _).mono ?_
   rw [H2.out]
   rintro _ w' ⟨rfl,rfl⟩
   go_wp2_with fail
   go_ret
   exact ⟨dU I.out,u.out⟩
theorem rX (XA ZA:Option Addr) (xn xc zn zc:Nat) (xs W:List Int) (w:World) (hx:dP w XA xn xs) (hz:dP w ZA zn W) (aS:xn<=1048576) (aG:zn<=1048576) :
  Calls Tryz.prog 242 #[.slice XA xn xc,.slice ZA zn zc] w fun e w'=>∃A n c,e = .returned (.slice A n c)/\Own w.heap.size w' A n c (asc (xs.filter fun x=>decide (0<x/\x∉W)))/\Below w.heap.size w w':=by
 obtain ⟨HX,HZ⟩:=hd2 hx hz
 clear hx hz
 go_enter Tryz.func242,Tryz.ntmps242
 go_wp2_with fail
 refine (oG XA xn xc xs _ HX.out aS).mono ?_
 rintro _ w1 ⟨YA,yc,rfl,⟨ys,Z,aj,ai⟩,b1⟩
 obtain ⟨aW,aT,az,ak⟩:=hd4 aj ai b1 Z.ints
 obtain ⟨n,rfl⟩:∃n,n=xn:=⟨xn,rfl⟩
 clear aj ai Z b1
 go_wp2_with fail
 go_loopw [6,7] (fun v i wr=>∃(k:Nat) (A:Option Addr) (m c:Nat),k<=n/\i = .int .i64 (k:Int)/\v = .slice A m c/\m<=k/\aJ w1 wr [.cel (aH (nP W ys k)) (.slice A m c)]) (fun _ i _=>n - (intOf i).toNat)
 ·exact ⟨0,_,_,_,by omega,rfl,rfl,by omega,(aJ.refl w1).pushNew 3 1⟩
 obtain ⟨k,A1,n1,c1,hk,rfl,rfl,bb,hs⟩:=hrel
 have U:=Hd hs
 have ay:=Hd (aA az.out hs.bel)
 clear hs
 by_cases aC:k<n
 ·have aR:=dT (by omega:k<n)
  have aO:k<ys.length:=by rw [ak.out.1];exact aC
  obtain ⟨Q,Z,aD,aB,av⟩:=ak.out.2 (by omega)
  have aF:=Hd aD
  have V:=(U.out.bel.cell (p:=⟨Q,Z+k,none⟩) aB).trans (av k aC)
  have j:=aK U.out.bel aB
  have g:nP W ys (k+1)=wh W (nP W ys k) (ys[k]?.getD 0):=rfl
  have aM:=(U.out.ints 0 rfl).1
  clear av aO aD
  obtain rfl:=aF.out
  generalize nP W ys k=out at *
  generalize ys[k]?.getD 0=x at *
  obtain ⟨i0,i1⟩:=ib (by omega:k<n)
  unfold wh at g
  by_cases z:0<x
  ·have dx:decide ((0:Int)<x)=true:=decide_eq_true z
   have K:=fun (v:Sub wr)=>nM ZA zn zc W x v.v ((HZ.out.below (aA ay.out v.h))) aG
   by_cases B:x∈W
   ·rw [if_neg (fun h=>h.2.1 B)] at g
    have HK:=Hd g
    rw [decide_eq_true B] at K
    have R:=Hd K
    clear K g z B
    go_upto_region 6 with fail
    have q:=aY wr
    have G:=aP wr
    refine wpB wr ?_
    repeat (go_big_quiet_step ((first|(go_at_call 208;with_reducible exact aQ (R.out _)))))
    refine wpQuiet_nil ?_
    rintro Y ⟨⟨w5,u⟩,I⟩
    replace I:Y=w5:=I
    subst I
    clear q G
    have ad:=(u.cell (p:=⟨Q,Z+k,none⟩) j).trans V
    have J:=aK u j
    have H:=Hd (U.out.below u)
    clear u V j
    go_wp2_with fail
    go_roundw
    ·exact ⟨k+1,A1,n1,c1,by omega,by go_num,rfl,by omega,by rw [HK.out];exact H.out⟩
    simp [intOf];omega
   rw [decide_eq_false B] at K
   have R:=Hd K
   clear K
   by_cases aN:n1=0
   ·have d0:((n1:Int)==0)=true:=by simp;omega
    have ah:out=[]:=List.eq_nil_of_length_eq_zero (by omega)
    rw [if_pos ⟨z,B,by rw [ah];simp⟩] at g
    have HK:=Hd g
    clear g z B ah aN
    go_upto_region 6 with fail
    have q:=aY wr
    have G:=aP wr
    refine wpB wr ?_
    repeat (go_big_quiet_step ((first|(go_at_call 208;with_reducible exact aQ (R.out _)))))
    refine wpQuiet_nil ?_
    rintro Y ⟨⟨w5,u⟩,I⟩
    replace I:Y=w5:=I
    subst I
    clear q G
    have ad:=(u.cell (p:=⟨Q,Z+k,none⟩) j).trans V
    have J:=aK u j
    have H:=Hd (U.out.below u)
    clear u V j d0
    go_wp2_with (at_builtin;refine gF rfl _ _ rfl _ (H.out.alloc _) 0 _ n1 c1 out x _ (0,0) rfl rfl rfl (aI _ _) (by omega) ?_;intro g9 ao w9 S9 al;have am:=Hd S9;clear S9 al)
    go_roundw
    ·exact ⟨k+1,some ⟨g9,0,none⟩,n1+1,ao,by omega,by go_num,rfl,by omega,by rw [HK.out];exact am.out⟩
    simp [intOf];omega
   have d0:((n1:Int)==0)=false:=by simp;omega
   obtain ⟨bo,oo,ar,au,aw⟩:=(U.out.ints 0 rfl).2 (by omega)
   have aU:=Hd ar
   have co:=aw (n1 - 1) (by omega)
   clear aw ar
   obtain rfl:=aU.out
   have D:out.getLast?=some (out[n1 - 1]?.getD 0):=by rw [List.getLast?_eq_getElem?,aM,List.getElem?_eq_getElem (by omega)];rfl
   generalize out[n1 - 1]?.getD 0=y at *
   have in1:(0:Int)<=(n1:Int) - 1:=by omega
   have in2:(n1:Int) - 1<(n1:Int):=by omega
   have in3:((n1:Int) - 1).toNat=n1 - 1:=by omega
   have e3:IntKind.i64.wrap ((n1:Int) - 1)=(n1:Int) - 1:=IntWalk.i64_in _ (by omega)
   by_cases ag:y=x
   ·subst ag
    rw [if_neg (fun h=>h.2.2 D)] at g
    have HK:=Hd g
    clear g z B D
    go_upto_region 6 with fail
    have q:=aY wr
    have G:=aP wr
    refine wpB wr ?_
    repeat (go_big_quiet_step ((first|(go_at_call 208;with_reducible exact aQ (R.out _)))))
    refine wpQuiet_nil ?_
    rintro Y ⟨⟨w5,u⟩,I⟩
    replace I:Y=w5:=I
    subst I
    clear q G
    have ad:=(u.cell (p:=⟨Q,Z+k,none⟩) j).trans V
    have J:=aK u j
    have H:=Hd (U.out.below u)
    clear u V j co au in1 in2 in3 e3
    go_wp2_with fail
    go_roundw
    ·exact ⟨k+1,_,n1,c1,by omega,by go_num,rfl,by omega,by rw [HK.out];exact H.out⟩
    simp [intOf];omega
   have dy:(y != x)=true:=by simp [ag]
   rw [if_pos ⟨z,B,by rw [D];intro h;injection h with h;exact ag h⟩] at g
   have HK:=Hd g
   clear g z B D ag
   go_upto_region 6 with fail
   have q:=aY wr
   have G:=aP wr
   refine wpB wr ?_
   repeat (go_big_quiet_step ((first|(go_at_call 208;with_reducible exact aQ (R.out _)))))
   refine wpQuiet_nil ?_
   rintro Y ⟨⟨w5,u⟩,I⟩
   replace I:Y=w5:=I
   subst I
   clear q G
   have ad:=(u.cell (p:=⟨Q,Z+k,none⟩) j).trans V
   have J:=aK u j
   have H:=Hd (U.out.below u)
   clear u V j co au in1 in2 in3 e3
   go_wp2_with (at_builtin;refine gF rfl _ _ rfl _ (H.out.alloc _) 0 _ n1 c1 out x _ (0,0) rfl rfl rfl (aI _ _) (by omega) ?_;intro g9 ao w9 S9 al;have am:=Hd S9;clear S9 al)
   go_roundw
   ·exact ⟨k+1,some ⟨g9,0,none⟩,n1+1,ao,by omega,by go_num,rfl,by omega,by rw [HK.out];exact am.out⟩
   simp [intOf];omega
  have dx:decide ((0:Int)<x)=false:=decide_eq_false z
  rw [if_neg (fun h=>z h.1)] at g
  have HK:=Hd g
  clear g z
  go_upto_region 6 with fail
  have q:=aY wr
  have G:=aP wr
  refine wpB wr ?_
  repeat (go_big_quiet_step ((fail)))
  refine wpQuiet_nil ?_
  rintro Y ⟨⟨w5,u⟩,I⟩
  replace I:Y=w5:=I
  subst I
  clear q G
  have ad:=(u.cell (p:=⟨Q,Z+k,none⟩) j).trans V
  have J:=aK u j
  have H:=Hd (U.out.below u)
  clear u V j
  go_wp2_with fail
  go_roundw
  ·exact ⟨k+1,A1,n1,c1,by omega,by go_num,rfl,by omega,by rw [HK.out];exact H.out⟩
  simp [intOf];omega
 have aq:k=n:=by omega
 have aR:=dF (by omega:n<=k)
 have HD:Hid (Own w.heap.size wr A1 n1 c1 (asc (xs.filter fun x=>decide (0<x/\x∉W)))):=by
  have h:=(U.out.owned 0 rfl).more az.out.size
  rw [aq,←ak.out.1,Af aT.out aW.out] at h
  exact h
 clear U aq
 go_wp2_with fail
 go_ret
 exact ⟨_,_,_,rfl,HD.out,ay.out⟩
theorem BQ (l:ag) (SA LA OA:Option Addr) (sn sc ln lc on oc:Nat) (a b:Int) (w:World) (h:fU w l SA LA OA sn sc ln lc on oc) (hf:az l) (he:dG l ⟨a,b⟩) :
  Calls Tryz.prog 241 #[jE l SA LA OA sn sc ln lc on oc,.agg #[.int .i64 a,.int .i64 b]] w fun e w'=>∃A n c,e = .returned (.slice A n c)/\Own w.heap.size w' A n c (iB l ⟨a,b⟩)/\Below w.heap.size w w':=by
 have hk:=Ag (l:=l) (e:=⟨a,b⟩) fun x hx=>((qc hf he).2 x hx).1
 have Y:qL l ⟨a,b⟩=if 0<=a then (l.luts[a.toNat]?.getD Lt.zero).ins else (l.seqs[b.toNat]?.getD Sq.zero).ins:=rfl
 obtain ⟨e1,e2,e3,_⟩:=nI.1 he
 have q:=(qc hf he).1
 rw [Y] at q hk
 have j:=hk.symm
 clear hk Y
 have g:=Hd (aB (aB (Below.refl w.heap.size w) (.cells (ai l SA LA OA sn sc ln lc on oc) 41)) (.cells #[.int .i64 a,.int .i64 b] 94))
 have hx:=aW (.cells #[.int .i64 a,.int .i64 b] 94) (aI w (.cells (ai l SA LA OA sn sc ln lc on oc) 41))
 have hy:=aI (w.alloc (.cells (ai l SA LA OA sn sc ln lc on oc) 41)) (.cells #[.int .i64 a,.int .i64 b] 94)
 simp only [World.size_alloc] at hy
 obtain ⟨B,z⟩:=hd2 hx hy
 clear hx hy
 obtain ⟨G,D,K⟩:=h.lens
 have ak:=hf.nseq
 have ar:=hf.nlut
 have aj:=hf.nout
 have aH:=hf.inp
 rw [G] at ak
 rw [D] at ar
 rw [K] at aj
 obtain ⟨HN,HF,Z,U,aG⟩:=hd5 h hf G D K
 have ay:Hid ((l.first:Int)=1+l.inputs+(sn:Int)):=by show _=_;unfold ag.first;omega
 have aE:Hid ((l.count:Int)=1+l.inputs+(sn:Int)+(ln:Int)):=by show _=_;unfold ag.count ag.first;omega
 clear h hf G D K
 by_cases h0:0<=a
 ·have d0:decide (a≥0)=true:=decide_eq_true h0
  rw [if_pos h0] at j q
  obtain ⟨X,rfl⟩:∃X:Nat,a=(X:Int):=⟨a.toNat,by omega⟩
  rw [Int.toNat_natCast] at j q
  have hX:X<ln:=by have:=U.out;omega
  obtain ⟨V,W,S,m,p,rfl,u,c0,c1,R⟩:=HN.out.lt.lut' (k:=X) (by rw [U.out];exact hX)
  have ao:=aK g.out u
  rw [←g.out.cell (p:=⟨V,W+X * 2,none⟩) u] at c0
  have H:=Hd R.ints
  rw [R.ints.1] at q
  have Q:=Hd j
  clear c1 R j e1 e2 e3 he
  generalize (l.luts[X]?.getD Lt.zero).ins=src at *
  go_enter Tryz.func241,Tryz.ntmps241
  go_upto_region 1 with fail
  generalize (w.alloc (.cells (ai l SA (some ⟨V,W,none⟩) OA sn sc ln lc on oc) 41)).alloc (.cells #[.int .i64 (X:Int),.int .i64 b] 94)=W9 at *
  have x2:=aF (k:=2) B.out rfl
  have y0:=aF (k:=0) z.out rfl
  have lx:=aC B.out
  have ly:=aC z.out
  go_wp2_with fail
  clear x2 y0 lx ly c0
  refine (rX S _ m p 0 0 src [] _ (H.out.below (aB (aA g.out (Below.refl _ _)) _)) ⟨rfl,fun h=>by omega⟩ (by omega) (by omega)).mono ?_
  rintro _ w1 ⟨A1,n1,c1,rfl,o1,b1⟩
  have J:=Hd (show Own w.heap.size w1 A1 n1 c1 _ from o1.more (Nat.le_trans g.out.size (by simp)))
  have I:=Hd (aA (aB g.out _) b1)
  clear o1 b1
  go_wp2_with fail
  go_ret
  exact ⟨_,_,_,rfl,by rw [Q.out];exact J.out,I.out⟩
 have d0:decide (a≥0)=false:=decide_eq_false h0
 rw [if_neg h0] at j q
 obtain ⟨X,rfl⟩:∃X:Nat,b=(X:Int):=⟨b.toNat,by omega⟩
 rw [Int.toNat_natCast] at j q
 have hX:X<sn:=by have:=Z.out;omega
 obtain ⟨V,W,S,m,p,rfl,u,c0,c1,c2,R⟩:=HN.out.sq.sq' (k:=X) (by rw [Z.out];exact hX)
 have ao:=aK g.out u
 rw [←g.out.cell (p:=⟨V,W+X * 3+2,none⟩) u] at c2
 have H:=Hd R.ints
 rw [R.ints.1] at q
 have Q:=Hd j
 clear c0 c1 R j e1 e2 e3 he
 generalize (l.seqs[X]?.getD Sq.zero).ins=src at *
 go_enter Tryz.func241,Tryz.ntmps241
 go_upto_region 1 with fail
 generalize (w.alloc (.cells (ai l (some ⟨V,W,none⟩) LA OA sn sc ln lc on oc) 41)).alloc (.cells #[.int .i64 a,.int .i64 (X:Int)] 94)=W9 at *
 have x1:=aF (k:=1) B.out rfl
 obtain ⟨y0,y1⟩:=cs2 z.out
 have lx:=aC B.out
 have ly:=aC z.out
 go_wp2_with fail
 clear x1 y0 y1 lx ly c2
 refine (rX S _ m p 0 0 src [] _ (H.out.below (aB (aA g.out (Below.refl _ _)) _)) ⟨rfl,fun h=>by omega⟩ (by omega) (by omega)).mono ?_
 rintro _ w1 ⟨A1,n1,c1,rfl,o1,b1⟩
 have J:=Hd (show Own w.heap.size w1 A1 n1 c1 _ from o1.more (Nat.le_trans g.out.size (by simp)))
 have I:=Hd (aA (aB g.out _) b1)
 clear o1 b1
 go_wp2_with fail
 go_ret
 exact ⟨_,_,_,rfl,by rw [Q.out];exact J.out,I.out⟩
end Go.Proofs.YtofihjoanjkdmaaGreat
