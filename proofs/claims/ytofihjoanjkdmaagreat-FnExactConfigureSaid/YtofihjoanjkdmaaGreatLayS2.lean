/- The reference's test whether a network of look-up tables is valid: its parts (printed by mklns.py). -/
import Derived.Test.YtofihjoanjkdmaaGreatLayF3
import Derived.Test.YtofihjoanjkdmaaGreatRtS3
namespace Go.Proofs.YtofihjoanjkdmaaGreat
set_option maxHeartbeats 4000000
set_option maxRecDepth 100000
open Go.RowKit
theorem nY (g:Int) (SA LA OA:Option Addr) (sn sc ln lc on oc:Nat) (w:World) (h0:0<=g) (h1:g<=1099511627776) (h2:sn<=1099511627776) :
  Calls Tryz.prog 156 #[.agg #[.int .i64 g,.slice SA sn sc,.slice LA ln lc,.slice OA on oc]] w fun e w'=>e = .returned (.int .i64 (1+g+(sn:Int)))/\Below w.heap.size w w':=by
 go_enter Tryz.func156,Tryz.ntmps156
 go_wp2
 go_ret
 exact ⟨rfl,aB (Below.refl _ _) _⟩
theorem mW (A:Option Addr) (n c:Nat) (xs:List Int) (m:Int) (w:World) (h:dP w A n xs) (hn:n<=1048576) (_:0<=m/\m<=1048576) :
  Calls Tryz.prog 154 #[.slice A n c,.int .i64 m] w fun e w'=>e = .returned (.bool (tb (jy xs m)))/\w=w':=by
 have Q:=Hd h
 clear h
 go_enter Tryz.func154,Tryz.ntmps154
 go_wp2_with fail
 go_loopw [5] (fun i wr=>∃k:Nat,k<=n/\i = .int .i64 (k:Int)/\w=wr/\∀j,j<k→0<=xs[j]?.getD 0/\xs[j]?.getD 0<m) (fun i _=>n - (intOf i).toNat)
 ·exact ⟨0,by omega,rfl,rfl,fun j hj=>by omega⟩
 obtain ⟨k,hk,rfl,rfl,g⟩:=hrel
 have q:=Hd g
 clear g
 by_cases H:k<n
 ·have I:=dT (by omega:k<n)
  obtain ⟨b,o,rfl,hb,hc⟩:=Q.out.2 (by omega)
  have K:=hc k H
  have B:k<xs.length:=by rw [Q.out.1];exact H
  have D:=Hd (List.getElem_mem B)
  have G:Hid (0<=xs[k]?.getD 0/\xs[k]?.getD 0<m→∀j,j<k+1→0<=xs[j]?.getD 0/\xs[j]?.getD 0<m):=fun h=>bW q.out h
  rw [List.getElem?_eq_getElem B,Option.getD_some] at K G
  generalize xs[k]=x at *
  obtain ⟨Y,Z⟩:=ib (by omega:k<n)
  clear hc
  by_cases u:x<0
  ·have R:Hid (¬jy xs m):=fun h=>by have:=(h x D.out).1;omega
   have V:decide (x<0)=true:=decide_eq_true u
   clear G u
   go_wp2_with fail
   go_ret
   exact ⟨aO R.out,rfl⟩
  have V:decide (x<0)=false:=decide_eq_false u
  by_cases z:x<m
  ·have U:=Hd (G.out ⟨by omega,z⟩)
   have hd2:decide (x≥m)=false:=decide_eq_false (by omega)
   clear G z
   go_wp2_with fail
   go_roundw
   ·exact ⟨k+1,by omega,by go_num,by first|rfl|trivial,U.out⟩
   simp [intOf];omega
  have R:Hid (¬jy xs m):=fun h=>z (h x D.out).2
  have hd2:decide (x≥m)=true:=decide_eq_true (by omega)
  clear G
  go_wp2_with fail
  go_ret
  exact ⟨aO R.out,rfl⟩
 have J:k=n:=by omega
 subst J
 have I:decide ((k:Int)<(k:Int))=false:=by simp
 go_wp2_with fail
 go_ret
 refine ⟨dU fun x W=>?_,rfl⟩
 obtain ⟨j,hj,rfl⟩:=List.getElem_of_mem W
 have:=q.out j (by rw [←Q.out.1];exact hj)
 rwa [List.getElem?_eq_getElem hj,Option.getD_some] at this
theorem rD (l:ag) (SA LA OA:Option Addr) (sn sc ln lc on oc:Nat) (w:World) (hi:0<=l.inputs/\l.inputs<=20) (h1:sn<=12) (h2:ln<=400) (h3:on<=16) :
  Calls Tryz.prog 153 #[jE l SA LA OA sn sc ln lc on oc] w fun e w'=>e = .returned (.int .i64 (1+l.inputs+(sn:Int)+(ln:Int)))/\Below w.heap.size w w':=by
 have g:=Hd (aB (Below.refl w.heap.size w) (.cells (ai l SA LA OA sn sc ln lc on oc) 41))
 have j:Hid (inR l.inputs 0 20=true):=aR.2 hi
 have u:decide ((12:Int)<(sn:Int))=false:=decide_eq_false (by omega)
 have q:decide ((400:Int)<(ln:Int))=false:=decide_eq_false (by omega)
 have B:decide ((16:Int)<(on:Int))=false:=decide_eq_false (by omega)
 go_enter Tryz.func153,Tryz.ntmps153
 go_wp2_with fail
 refine (aj l.inputs 0 20 _).mono ?_
 rw [j.out]
 rintro _ z ⟨rfl,rfl⟩
 go_wp2_with fail
 go_ret
 exact ⟨rfl,g.out⟩
theorem yF (l:ag) (SA LA OA:Option Addr) (sn sc ln lc on oc:Nat) (w:World) (h:¬((0<=l.inputs/\l.inputs<=20)/\sn<=12/\ln<=400/\on<=16)) :
  Calls Tryz.prog 153 #[jE l SA LA OA sn sc ln lc on oc] w fun e w'=>e = .returned (.int .i64 0)/\Below w.heap.size w w':=by
 have g:=Hd (aB (Below.refl w.heap.size w) (.cells (ai l SA LA OA sn sc ln lc on oc) 41))
 cases hr:inR l.inputs 0 20 with
 | false =>
  have j:=Hd hr
  clear hr h
  go_enter Tryz.func153,Tryz.ntmps153
  go_wp2_with fail
  refine (aj l.inputs 0 20 _).mono ?_
  rw [j.out]
  rintro _ q ⟨rfl,rfl⟩
  go_wp2_with fail
  go_ret
  exact ⟨rfl,g.out⟩
 | true =>
  have j:=Hd hr
  have hi:=aR.1 hr
  clear hr
  by_cases h1:sn<=12
  ·have z:decide ((12:Int)<(sn:Int))=false:=decide_eq_false (by omega)
   by_cases h2:ln<=400
   ·have u:decide ((400:Int)<(ln:Int))=false:=decide_eq_false (by omega)
    have h3:¬on<=16:=fun h3=>h ⟨hi,h1,h2,h3⟩
    have B:decide ((16:Int)<(on:Int))=true:=decide_eq_true (by omega)
    clear h h1 h2 h3 hi
    go_enter Tryz.func153,Tryz.ntmps153
    go_wp2_with fail
    refine (aj l.inputs 0 20 _).mono ?_
    rw [j.out]
    rintro _ q ⟨rfl,rfl⟩
    go_wp2_with fail
    go_ret
    exact ⟨rfl,g.out⟩
   have u:decide ((400:Int)<(ln:Int))=true:=decide_eq_true (by omega)
   clear h h1 h2 hi
   go_enter Tryz.func153,Tryz.ntmps153
   go_wp2_with fail
   refine (aj l.inputs 0 20 _).mono ?_
   rw [j.out]
   rintro _ q ⟨rfl,rfl⟩
   go_wp2_with fail
   go_ret
   exact ⟨rfl,g.out⟩
  have z:decide ((12:Int)<(sn:Int))=true:=decide_eq_true (by omega)
  clear h h1 hi
  go_enter Tryz.func153,Tryz.ntmps153
  go_wp2_with fail
  refine (aj l.inputs 0 20 _).mono ?_
  rw [j.out]
  rintro _ q ⟨rfl,rfl⟩
  go_wp2_with fail
  go_ret
  exact ⟨rfl,g.out⟩
theorem zl (n:Nat) (w:World) (hn:n<=4) :
  Calls Tryz.prog 239 #[.int .i64 (n:Int)] w fun e w'=>e = .returned (.int .i64 (((2 ^ 2 ^ n:Nat):Int) - 1))/\w=w':=by
 have hc:n=0∨n=1∨n=2∨n=3∨n=4:=by omega
 rcases hc with rfl|rfl|rfl|rfl|rfl
 ·show Calls Tryz.prog 239 #[.int .i64 0] w fun e w'=>e = .returned (.int .i64 1)/\w=w'
  go_enter Tryz.func239,Tryz.ntmps239
  go_wp2
  go_ret
  exact ⟨rfl,rfl⟩
 ·show Calls Tryz.prog 239 #[.int .i64 1] w fun e w'=>e = .returned (.int .i64 3)/\w=w'
  go_enter Tryz.func239,Tryz.ntmps239
  go_wp2
  go_ret
  exact ⟨rfl,rfl⟩
 ·show Calls Tryz.prog 239 #[.int .i64 2] w fun e w'=>e = .returned (.int .i64 15)/\w=w'
  go_enter Tryz.func239,Tryz.ntmps239
  go_wp2
  go_ret
  exact ⟨rfl,rfl⟩
 ·show Calls Tryz.prog 239 #[.int .i64 3] w fun e w'=>e = .returned (.int .i64 255)/\w=w'
  go_enter Tryz.func239,Tryz.ntmps239
  go_wp2
  go_ret
  exact ⟨rfl,rfl⟩
 show Calls Tryz.prog 239 #[.int .i64 4] w fun e w'=>e = .returned (.int .i64 65535)/\w=w'
 go_enter Tryz.func239,Tryz.ntmps239
 go_wp2
 go_ret
 exact ⟨rfl,rfl⟩
theorem yG (n:Nat) (m:Int) (w:World) :
  Calls Tryz.prog 155 #[.agg #[.int .i64 (n:Int),.int .i64 m]] w fun e w'=>e = .returned (.bool (tb (iV n m)))/\Below w.heap.size w w':=by
 have B:=Hd (aB (Below.refl w.heap.size w) (.cells #[.int .i64 (n:Int),.int .i64 m] 188))
 have Y:=aI w (.cells #[.int .i64 (n:Int),.int .i64 m] 188)
 obtain ⟨U,Q,R⟩:=jv Y
 have D:Hid (iV n m↔inR (n:Int) 0 4=true/\0<=m/\m<=((2 ^ 2 ^ n:Nat):Int) - 1):=by
  show _↔_
  rw [aR]
  unfold iV
  have e:((2 ^ 2 ^ n:Nat):Int)=2 ^ 2 ^ n:=by simp
  rw [e]
  omega
 clear Y
 have I:=fun (x:Sub (w.alloc (.cells #[.int .i64 (n:Int),.int .i64 m] 188)))=>aj (n:Int) 0 4 x.v
 cases hr:inR (n:Int) 0 4 with
 | false =>
  rw [hr] at I
  have H:Hid (¬iV n m):=fun h=>by rw [(D.out.1 h).1] at hr;cases hr
  have K:=Hd I
  clear hr I D
  go_enter Tryz.func155,Tryz.ntmps155
  go_upto_region 1 with fail
  generalize w.alloc (.cells #[.int .i64 (n:Int),.int .i64 m] 188)=j at *
  have g:=aY j
  have u:=aP j
  refine wpB j ?_
  repeat (go_big_quiet_step ((first
   | (go_at_call 83;with_reducible exact aQ (K.out _)))))
  refine wpQuiet_nil ?_
  rintro _ ⟨⟨W,z⟩,rfl⟩
  clear g u
  have G:=Hd (aA B.out z)
  clear z U Q R
  go_wp2_with fail
  go_ret
  exact ⟨aO H.out,G.out⟩
 | true =>
  rw [hr] at I
  have K:=Hd I
  have V:n<=4:=by have:=aR.1 hr;omega
  have J:=Hd (fun (x:Sub (w.alloc (.cells #[.int .i64 (n:Int),.int .i64 m] 188)))=>zl n x.v V)
  have Z:=Hd hr
  clear hr I
  generalize ((2 ^ 2 ^ n:Nat):Int) - 1=q at *
  by_cases h0:0<=m
  ·have d0:decide (m≥0)=true:=decide_eq_true h0
   by_cases h1:m<=q
   ·have d1:decide (m<=q)=true:=decide_eq_true h1
    have H:Hid (iV n m):=D.out.2 ⟨Z.out,h0,h1⟩
    clear D h1
    go_enter Tryz.func155,Tryz.ntmps155
    go_upto_region 1 with fail
    generalize w.alloc (.cells #[.int .i64 (n:Int),.int .i64 m] 188)=j at *
    have g:=aY j
    have u:=aP j
    refine wpB j ?_
    repeat (go_big_quiet_step ((first
     | (go_at_call 83;with_reducible exact aQ (K.out _))
     | (go_at_call 239;with_reducible exact aQ (J.out _)))))
    refine wpQuiet_nil ?_
    rintro _ ⟨⟨W,z⟩,rfl⟩
    clear g u
    have G:=Hd (aA B.out z)
    clear z U Q R
    go_wp2_with fail
    go_ret
    exact ⟨dU H.out,G.out⟩
   have d1:decide (m<=q)=false:=decide_eq_false h1
   have H:Hid (¬iV n m):=fun h=>h1 (D.out.1 h).2.2
   clear D h1
   go_enter Tryz.func155,Tryz.ntmps155
   go_upto_region 1 with fail
   generalize w.alloc (.cells #[.int .i64 (n:Int),.int .i64 m] 188)=j at *
   have g:=aY j
   have u:=aP j
   refine wpB j ?_
   repeat (go_big_quiet_step ((first
    | (go_at_call 83;with_reducible exact aQ (K.out _))
    | (go_at_call 239;with_reducible exact aQ (J.out _)))))
   refine wpQuiet_nil ?_
   rintro _ ⟨⟨W,z⟩,rfl⟩
   clear g u
   have G:=Hd (aA B.out z)
   clear z U Q R
   go_wp2_with fail
   go_ret
   exact ⟨aO H.out,G.out⟩
  have d0:decide (m≥0)=false:=decide_eq_false h0
  have H:Hid (¬iV n m):=fun h=>h0 (D.out.1 h).2.1
  clear D h0
  go_enter Tryz.func155,Tryz.ntmps155
  go_upto_region 1 with fail
  generalize w.alloc (.cells #[.int .i64 (n:Int),.int .i64 m] 188)=j at *
  have g:=aY j
  have u:=aP j
  refine wpB j ?_
  repeat (go_big_quiet_step ((first
   | (go_at_call 83;with_reducible exact aQ (K.out _)))))
  refine wpQuiet_nil ?_
  rintro _ ⟨⟨W,z⟩,rfl⟩
  clear g u
  have G:=Hd (aA B.out z)
  clear z U Q R
  go_wp2_with fail
  go_ret
  exact ⟨aO H.out,G.out⟩
theorem dQ (l:ag) (SA LA OA:Option Addr) (sn sc ln lc on oc:Nat) (w:World) (h:fU w l SA LA OA sn sc ln lc on oc) :
  Calls Tryz.prog 81 #[jE l SA LA OA sn sc ln lc on oc] w fun e w'=>e = .returned (.bool (tb (az l)))/\Below w.heap.size w w':=by
 have u:=Hd (aB (Below.refl w.heap.size w) (.cells (ai l SA LA OA sn sc ln lc on oc) 41))
 have bx:=Hd (aI w (.cells (ai l SA LA OA sn sc ln lc on oc) 41))
 obtain ⟨a7,aZ,bd⟩:=h.lens
 obtain ⟨HN,U,W,a9⟩:=hd4 h a7 aZ bd
 clear h a7 aZ bd
 by_cases hz:(0<=l.inputs/\l.inputs<=20)/\sn<=12/\ln<=400/\on<=16
 ·obtain ⟨bb,aL,bh,bs⟩:=hz
  have HC:Hid ((l.count:Int)=1+l.inputs+(sn:Int)+(ln:Int)):=by show _=_;have:=U.out;have:=W.out;unfold ag.count ag.first;omega
  have a4:Hid ((l.first:Int)=1+l.inputs+(sn:Int)):=by show _=_;have:=U.out;unfold ag.first;omega
  have bL:((1+l.inputs+(sn:Int)+(ln:Int))==0)=false:=by simp;omega
  have aK:Hid (0<=1+l.inputs+(sn:Int)+(ln:Int)/\1+l.inputs+(sn:Int)+(ln:Int)<=1048576):=⟨by omega,by omega⟩
  have ad:=Hd bb
  clear bb
  go_enter Tryz.func81,Tryz.ntmps81
  go_wp2_with fail
  refine (rD l SA LA OA sn sc ln lc on oc _ ad.out aL bh bs).mono ?_
  rintro _ w1 ⟨rfl,b1⟩
  have Q:=Hd b1
  have aU:=Hd (aD b1 bx.out)
  obtain ⟨-,x1,x2,x3,lx⟩:=cO aU.out
  clear b1
  go_wp2_with fail
  refine (mW OA on oc l.outs _ _ (HN.out.below (aA u.out Q.out)).ou.ints (by omega) aK.out).mono ?_
  by_cases af:jy l.outs (1+l.inputs+(sn:Int)+(ln:Int))
  ·rw [ae af]
   have bw:=Hd af
   clear af
   rintro _ w2 ⟨rfl,rfl⟩
   go_wp2_with fail
   clear x1 x2 x3 lx
   go_loopw [4] (fun i wr=>∃k:Nat,k<=sn/\i = .int .i64 (k:Int)/\Below w1.heap.size w1 wr/\∀j,j<k→j5 (l.seqs[j]?.getD Sq.zero).kind (l.seqs[j]?.getD Sq.zero).init (l.seqs[j]?.getD Sq.zero).ins.length/\jy (l.seqs[j]?.getD Sq.zero).ins (1+l.inputs+(sn:Int)+(ln:Int))) (fun i _=>sn - (intOf i).toNat)
   ·exact ⟨0,by omega,rfl,Below.refl _ _,fun j hj=>by omega⟩
   obtain ⟨k,hk,rfl,hb,I⟩:=hrel
   obtain ⟨K,z⟩:=hd2 hb I
   clear hb I
   by_cases bc:k<sn
   ·have bn:=dT (by omega:k<sn)
    have aH:=Hd (HN.out.below (aA (aA u.out Q.out) K.out))
    obtain ⟨b,o,S,m,p,rfl,bt,c0,c1,c2,r2⟩:=aH.out.sq.sq' (k:=k) (by rw [U.out];exact bc)
    have hm:(l.seqs[k]?.getD Sq.zero).ins.length=m:=r2.ints.1
    have ap:=Hd r2
    have J:Hid (j5 (l.seqs[k]?.getD Sq.zero).kind (l.seqs[k]?.getD Sq.zero).init m/\jy (l.seqs[k]?.getD Sq.zero).ins (1+l.inputs+(sn:Int)+(ln:Int))→∀j,j<k+1→j5 (l.seqs[j]?.getD Sq.zero).kind (l.seqs[j]?.getD Sq.zero).init (l.seqs[j]?.getD Sq.zero).ins.length/\jy (l.seqs[j]?.getD Sq.zero).ins (1+l.inputs+(sn:Int)+(ln:Int))):=fun h=>bW z.out (by rw [hm];exact h)
    have g:Hid (¬(j5 (l.seqs[k]?.getD Sq.zero).kind (l.seqs[k]?.getD Sq.zero).init m/\jy (l.seqs[k]?.getD Sq.zero).ins (1+l.inputs+(sn:Int)+(ln:Int)))→¬az l):=fun h hf=>h (by
     have h1:=hf.seqs k (by rw [U.out];exact bc)
     rw [hm] at h1
     exact ⟨h1.1,by rw [←HC.out];exact h1.2⟩)
    generalize l.seqs[k]?.getD Sq.zero=s at *
    obtain ⟨i0,i1⟩:=ib (by omega:k<sn)
    clear r2 hm
    have B:=Hd (aB (Below.refl wr.heap.size wr) (.cells #[.int .i64 s.kind,.int .i64 s.init,.slice S m p] 91))
    obtain ⟨y0,y1,y2,ly⟩:=jX (aI wr (.cells #[.int .i64 s.kind,.int .i64 s.init,.slice S m p] 91))
    obtain ⟨-,x1,lx⟩:=jv (aD K.out aU.out)
    by_cases h0:s.kind=0
    ·have q0:(s.kind==0)=true:=by simp [h0]
     have q1:(s.kind==1)=false:=by simp [h0]
     cases hr:inR s.init 0 1 with
     | false =>
      have D:Hid (¬az l):=g.out fun h=>by
       rcases h.1 with h|h
       ·rw [aR.2 h.2.1] at hr;cases hr
       omega
      have HR:=Hd hr
      clear hr h0
      go_wp2_with fail
      refine (aj s.init 0 1 _).mono ?_
      rw [HR.out]
      rintro _ w' ⟨rfl,rfl⟩
      clear J g
      go_wp2_with fail
      go_ret
      exact ⟨aO D.out,aA (aA (aA u.out Q.out) K.out) B.out⟩
     | true =>
      have HR:=Hd hr
      by_cases G:m=1
      ·have d1:((m:Int)==1)=true:=by simp;omega
       have aJ:Hid (j5 s.kind s.init m) := .inl ⟨h0,aR.1 hr,G⟩
       have bk:m<=4:=by omega
       clear hr h0 G
       go_wp2_with fail
       refine (aj s.init 0 1 _).mono ?_
       rw [HR.out]
       rintro _ w' ⟨rfl,rfl⟩
       go_wp2_with fail
       refine (mW S m p s.ins _ _ (ap.out.below B.out).ints (by omega) aK.out).mono ?_
       by_cases q:jy s.ins (1+l.inputs+(sn:Int)+(ln:Int))
       ·rw [ae q]
        have al:=Hd (J.out ⟨aJ.out,q⟩)
        clear q J g
        rintro _ w4 ⟨rfl,rfl⟩
        clear y0 y1 y2 ly
        go_wp2_with fail
        go_roundw
        ·exact ⟨k+1,by omega,by go_num,aA K.out B.out,al.out⟩
        simp [intOf];omega
       rw [bJ q]
       have D:=Hd (g.out fun h=>q h.2)
       clear q J g
       rintro _ w4 ⟨rfl,rfl⟩
       clear y0 y1 y2 ly
       go_wp2_with fail
       go_ret
       exact ⟨aO D.out,aA (aA (aA u.out Q.out) K.out) B.out⟩
      have d1:((m:Int)==1)=false:=by simp;omega
      have D:Hid (¬az l):=g.out fun h=>by
       rcases h.1 with h|h
       ·exact G h.2.2
       omega
      clear hr h0 G
      go_wp2_with fail
      refine (aj s.init 0 1 _).mono ?_
      rw [HR.out]
      rintro _ w' ⟨rfl,rfl⟩
      clear J g
      go_wp2_with fail
      go_ret
      exact ⟨aO D.out,aA (aA (aA u.out Q.out) K.out) B.out⟩
    have q0:(s.kind==0)=false:=by simp [h0]
    by_cases h1:s.kind=1
    ·have q1:(s.kind==1)=true:=by simp [h1]
     cases hr:inR s.init 0 31 with
     | false =>
      have D:Hid (¬az l):=g.out fun h=>by
       rcases h.1 with h|h
       ·omega
       rw [aR.2 h.2.1] at hr;cases hr
      have HR:=Hd hr
      clear hr h0 h1
      go_wp2_with fail
      refine (aj s.init 0 31 _).mono ?_
      rw [HR.out]
      rintro _ w' ⟨rfl,rfl⟩
      clear J g
      go_wp2_with fail
      go_ret
      exact ⟨aO D.out,aA (aA (aA u.out Q.out) K.out) B.out⟩
     | true =>
      have HR:=Hd hr
      by_cases G:m=4
      ·have d1:((m:Int)==4)=true:=by simp;omega
       have aJ:Hid (j5 s.kind s.init m) := .inr ⟨h1,aR.1 hr,G⟩
       have bk:m<=4:=by omega
       clear hr h0 h1 G
       go_wp2_with fail
       refine (aj s.init 0 31 _).mono ?_
       rw [HR.out]
       rintro _ w' ⟨rfl,rfl⟩
       go_wp2_with fail
       refine (mW S m p s.ins _ _ (ap.out.below B.out).ints (by omega) aK.out).mono ?_
       by_cases q:jy s.ins (1+l.inputs+(sn:Int)+(ln:Int))
       ·rw [ae q]
        have al:=Hd (J.out ⟨aJ.out,q⟩)
        clear q J g
        rintro _ w4 ⟨rfl,rfl⟩
        clear y0 y1 y2 ly
        go_wp2_with fail
        go_roundw
        ·exact ⟨k+1,by omega,by go_num,aA K.out B.out,al.out⟩
        simp [intOf];omega
       rw [bJ q]
       have D:=Hd (g.out fun h=>q h.2)
       clear q J g
       rintro _ w4 ⟨rfl,rfl⟩
       clear y0 y1 y2 ly
       go_wp2_with fail
       go_ret
       exact ⟨aO D.out,aA (aA (aA u.out Q.out) K.out) B.out⟩
      have d1:((m:Int)==4)=false:=by simp;omega
      have D:Hid (¬az l):=g.out fun h=>by
       rcases h.1 with h|h
       ·omega
       exact G h.2.2
      clear hr h0 h1 G
      go_wp2_with fail
      refine (aj s.init 0 31 _).mono ?_
      rw [HR.out]
      rintro _ w' ⟨rfl,rfl⟩
      clear J g
      go_wp2_with fail
      go_ret
      exact ⟨aO D.out,aA (aA (aA u.out Q.out) K.out) B.out⟩
    have q1:(s.kind==1)=false:=by simp [h1]
    have D:Hid (¬az l):=g.out fun h=>by
     rcases h.1 with h|h
     ·exact h0 h.1
     exact h1 h.1
    clear h0 h1 J g
    go_wp2_with fail
    go_ret
    exact ⟨aO D.out,aA (aA (aA u.out Q.out) K.out) B.out⟩
   have bn:=dF (by omega:sn<=k)
   have aT:k=sn:=by omega
   have bq:Hid (∀j,j<sn→j5 (l.seqs[j]?.getD Sq.zero).kind (l.seqs[j]?.getD Sq.zero).init (l.seqs[j]?.getD Sq.zero).ins.length/\jy (l.seqs[j]?.getD Sq.zero).ins (1+l.inputs+(sn:Int)+(ln:Int))):=fun j hj=>z.out j (by omega)
   have aF:=Hd (aD K.out aU.out)
   clear z aT
   obtain ⟨-,x1,lx⟩:=jv aF.out
   obtain ⟨wo,rfl⟩:∃y,y=wr:=⟨wr,rfl⟩
   go_wp2_with fail
   clear x1 lx
   go_loopw [6] (fun i wr=>∃k:Nat,k<=ln/\i = .int .i64 (k:Int)/\Below wo.heap.size wo wr/\∀j,j<k→iV (l.luts[j]?.getD Lt.zero).ins.length (l.luts[j]?.getD Lt.zero).mask/\jy (l.luts[j]?.getD Lt.zero).ins (1+l.inputs+(sn:Int)+(j:Int))) (fun i _=>ln - (intOf i).toNat)
   ·exact ⟨0,by omega,rfl,Below.refl _ _,fun j hj=>by omega⟩
   obtain ⟨k,hk,rfl,hb,I⟩:=hrel
   obtain ⟨V,z⟩:=hd2 hb I
   clear hb I
   have bj:=Hd (aD V.out aF.out)
   obtain ⟨-,-,z2,lz⟩:=jX bj.out
   by_cases ar:k<ln
   ·have a5:=dT (by omega:k<ln)
    have aH:=Hd (HN.out.below (aA (aA (aA u.out Q.out) K.out) V.out))
    have a3:=Hd (aD V.out aF.out)
    obtain ⟨b,o,S,m,p,rfl,bt,c0,c1,r2⟩:=aH.out.lt.lut' (k:=k) (by rw [W.out];exact ar)
    have hm:(l.luts[k]?.getD Lt.zero).ins.length=m:=r2.ints.1
    have ap:=Hd r2
    have J:Hid (iV m (l.luts[k]?.getD Lt.zero).mask/\jy (l.luts[k]?.getD Lt.zero).ins (1+l.inputs+(sn:Int)+(k:Int))→∀j,j<k+1→iV (l.luts[j]?.getD Lt.zero).ins.length (l.luts[j]?.getD Lt.zero).mask/\jy (l.luts[j]?.getD Lt.zero).ins (1+l.inputs+(sn:Int)+(j:Int))):=fun h=>bW z.out (by rw [hm];exact h)
    have g:Hid (¬(iV m (l.luts[k]?.getD Lt.zero).mask/\jy (l.luts[k]?.getD Lt.zero).ins (1+l.inputs+(sn:Int)+(k:Int)))→¬az l):=fun h hf=>h (by
     have h1:=hf.luts k (by rw [W.out];exact ar)
     rw [hm] at h1
     exact ⟨⟨h1.1,h1.2.1⟩,by rw [←a4.out];exact h1.2.2⟩)
    generalize l.luts[k]?.getD Lt.zero=s at *
    obtain ⟨i0,i1⟩:=ib (by omega:k<ln)
    clear r2 hm
    have am:=Hd (aB (Below.refl wr.heap.size wr) (.cells #[.slice S m p,.int .i64 s.mask] 96))
    obtain ⟨y0,y1,ly⟩:=jv (aI wr (.cells #[.slice S m p,.int .i64 s.mask] 96))
    have a8:=aD am.out a3.out
    obtain ⟨x0,x1,x2,x3,lx⟩:=cO a8
    have bH:wr.heap.size≠w.heap.size:=by have:=aC a3.out;omega
    go_upto_region 14 with fail
    generalize wr.alloc (.cells #[.slice S m p,.int .i64 s.mask] 96)=W9 at *
    have aW:=Hd (fun (x:Sub W9)=>nY l.inputs SA (some ⟨b,o,none⟩) OA sn sc ln lc on oc x.v ad.out.1 (by have:=ad.out;omega) (by omega))
    have bA:=ad.out.1
    have bB:=ad.out.2
    clear c0 c1 a8 z2 lz
    have Z:=fun (x:Sub W9)=>yG m s.mask x.v
    by_cases R:iV m s.mask
    ·rw [ae R] at Z
     have bI:m<=4:=R.1
     have ao:=Hd Z
     have Y:=fun (x:Sub W9)=>mW S m p s.ins (1+l.inputs+(sn:Int)+(k:Int)) x.v (ap.out.below (aA am.out x.h)).ints (by omega) (by omega)
     have br:=Hd R
     clear R Z
     by_cases q:jy s.ins (1+l.inputs+(sn:Int)+(k:Int))
     ·rw [ae q] at Y
      have aG:=Hd Y
      have al:=Hd (J.out ⟨br.out,q⟩)
      clear Y q J g
      have H:=aY W9
      have ak:=aP W9
      refine wpB W9 ?_
      repeat (go_big_quiet_step ((first
       | (go_at_call 155;with_reducible exact aN (ao.out _))
       | (go_at_call 156;with_reducible exact aN (aW.out _))
       | (go_at_call 154;with_reducible exact aQ (aG.out _)))))
      refine wpQuiet_nil ?_
      rintro _ ⟨⟨w5,hD⟩,rfl⟩
      clear H ak
      have HD:=Hd (aA am.out hD)
      clear hD x0 x1 x2 x3 lx y0 y1 ly
      go_wp2_with fail
      go_roundw
      ·exact ⟨k+1,by omega,by go_num,aA V.out HD.out,al.out⟩
      simp [intOf];omega
     rw [bJ q] at Y
     have aG:=Hd Y
     have D:=Hd (g.out fun h=>q h.2)
     clear Y q J g
     have H:=aY W9
     have ak:=aP W9
     refine wpB W9 ?_
     repeat (go_big_quiet_step ((first
      | (go_at_call 155;with_reducible exact aN (ao.out _))
      | (go_at_call 156;with_reducible exact aN (aW.out _))
      | (go_at_call 154;with_reducible exact aQ (aG.out _)))))
     refine wpQuiet_nil ?_
     rintro _ ⟨⟨w5,hD⟩,rfl⟩
     clear H ak
     have HD:=Hd (aA am.out hD)
     clear hD x0 x1 x2 x3 lx y0 y1 ly
     go_wp2_with fail
     go_ret
     exact ⟨aO D.out,aA (aA (aA (aA u.out Q.out) K.out) V.out) HD.out⟩
    rw [bJ R] at Z
    have ao:=Hd Z
    have D:=Hd (g.out fun h=>R h.1)
    clear Z R J g
    have H:=aY W9
    have ak:=aP W9
    refine wpB W9 ?_
    repeat (go_big_quiet_step ((first
     | (go_at_call 155;with_reducible exact aN (ao.out _)))))
    refine wpQuiet_nil ?_
    rintro _ ⟨⟨w5,hD⟩,rfl⟩
    clear H ak
    have HD:=Hd (aA am.out hD)
    clear hD x0 x1 x2 x3 lx y0 y1 ly
    go_wp2_with fail
    go_ret
    exact ⟨aO D.out,aA (aA (aA (aA u.out Q.out) K.out) V.out) HD.out⟩
   have a5:=dF (by omega:ln<=k)
   have aT:k=ln:=by omega
   have bv:Hid (∀j,j<ln→iV (l.luts[j]?.getD Lt.zero).ins.length (l.luts[j]?.getD Lt.zero).mask/\jy (l.luts[j]?.getD Lt.zero).ins (1+l.inputs+(sn:Int)+(j:Int))):=fun j hj=>z.out j (by omega)
   have bo:=Hd (aA (aA (aA u.out Q.out) K.out) V.out)
   have a0:Hid (az l):=⟨ad.out,by have:=U.out;omega,by have:=W.out;omega,by have:=a9.out;omega,by have:=bw.out;rw [←HC.out] at this;exact this,fun i hi=>by have:=bq.out i (by rw [←U.out];exact hi);rw [←HC.out] at this;exact this,fun i hi=>by have:=bv.out i (by rw [←W.out];exact hi);rw [←a4.out] at this;exact ⟨this.1.1,this.1.2,this.2⟩⟩
   clear z aT
   go_wp2_with fail
   go_ret
   exact ⟨dU a0.out,bo.out⟩
  rw [bJ af]
  have D:Hid (¬az l):=fun hf=>af (by rw [←HC.out];exact hf.outs)
  clear af
  rintro _ w2 ⟨rfl,rfl⟩
  go_wp2_with fail
  go_ret
  exact ⟨aO D.out,aA u.out Q.out⟩
 have D:Hid (¬az l):=fun hf=>hz ⟨hf.inp,by have:=hf.nseq;have:=U.out;omega,by have:=hf.nlut;have:=W.out;omega,by have:=hf.nout;have:=a9.out;omega⟩
 go_enter Tryz.func81,Tryz.ntmps81
 go_wp2_with fail
 refine (yF l SA LA OA sn sc ln lc on oc _ hz).mono ?_
 rintro _ w1 ⟨rfl,b1⟩
 have Q:=Hd b1
 clear b1 hz
 go_wp2_with fail
 go_ret
 exact ⟨aO D.out,aA u.out Q.out⟩
theorem zm (l:ag) (SA LA OA:Option Addr) (sn sc ln lc on oc:Nat) (w:World) (h:fU w l SA LA OA sn sc ln lc on oc) (hf:az l) :
  Calls Tryz.prog 240 #[jE l SA LA OA sn sc ln lc on oc] w fun e w'=>∃A,e = .returned (.slice A l.count l.count)/\Own w.heap.size w' A l.count l.count (aG l.count (ko l))/\Below w.heap.size w w':=by
 have bm:=Hd (aB (Below.refl w.heap.size w) (.cells (ai l SA LA OA sn sc ln lc on oc) 41))
 have bq:=Hd (aI w (.cells (ai l SA LA OA sn sc ln lc on oc) 41))
 obtain ⟨a3,aS,a6⟩:=h.lens
 have h1:=hf.nseq
 have h2:=hf.nlut
 have h3:=hf.nout
 have bn:=Hd hf.inp
 have bp:=hf.inp
 obtain ⟨HN,HF,aE,aN,bG⟩:=hd5 h hf aS a3 a6
 have hC:1+l.inputs+(sn:Int)+(ln:Int)=(l.count:Int):=by unfold ag.count ag.first;omega
 have aU:Hid ((l.first:Int)+(ln:Int)=(l.count:Int)):=by show _=_;unfold ag.count;omega
 obtain ⟨C,ax⟩:∃C,l.count=C:=⟨_,rfl⟩
 have aL:=Hd ax
 rw [ax] at hC
 have bC:C<=433:=by omega
 have D:sn<=12:=by omega
 have bb:ln<=400:=by omega
 have bk:on<=16:=by omega
 obtain ⟨i0,hi,aW,aX,aT⟩:=info_parts jL
 have a4:=fun W=>bv (P:=Tryz.prog) 26 3 i0 _ Tryz.underlying26 hi aW .i64 .i64 C C (Nat.le_refl _) (by rw [aT];omega) (by omega) W
 rw [aX,Nat.mul_one,show (Value.int .i64 0).cells=#[Value.int .i64 0] from rfl,nu] at a4
 have HC:=Hd hC
 rw [ax]
 clear h hf a3 aS a6 h1 h2 h3 ax hi aW aX aT hC
 go_enter Tryz.func240,Tryz.ntmps240
 go_wp2_with fail
 refine (rD l SA LA OA sn sc ln lc on oc _ bn.out D bb bk).mono ?_
 rw [HC.out]
 rintro _ u ⟨rfl,b1⟩
 have Y:=Hd (aD b1 bq.out)
 have H:=Hd (aA bm.out b1)
 have aP:=(aJ.refl u).consOwn (aB (Below.refl _ _) (.cells (arr (List.replicate C 0)) 3)) (Own.arr (n:=C) (aI u _) (Nat.le_refl _) (by unfold maxLen;omega) (by simp))
 have bj:=Hd (show aJ u (u.alloc (.cells (arr (List.replicate C 0)) 3)) [.cel (aH (aG C ((l.luts.take 0).flatMap Lt.ins))) (.slice (some ⟨u.heap.size,0,none⟩) C C)] from by
  rw [List.take_zero,List.flatMap_nil,pu]
  exact aP)
 have a9:=Hd (aD aP.bel Y.out)
 clear b1 aP bp
 have hx:=a9.out
 obtain ⟨x0,x1,x2,x3,lx⟩:=cO hx
 have bD:w.heap.size≠u.heap.size:=by have:=aC Y.out;omega
 clear hx
 go_wp2_with fail
 clear x0 x1 x2 x3 lx a4
 go_loopw [4] (fun i wr=>∃k:Nat,k<=ln/\i = .int .i64 (k:Int)/\aJ u wr [.cel (aH (aG C ((l.luts.take k).flatMap Lt.ins))) (.slice (some ⟨u.heap.size,0,none⟩) C C)]) (fun i _=>ln - (intOf i).toNat)
 ·exact ⟨0,by omega,rfl,bj.out⟩
 obtain ⟨k,hk,rfl,hs⟩:=hrel
 have B:=Hd hs
 obtain ⟨-,-,x2,lx⟩:=jX (aD hs.bel Y.out)
 clear hs
 by_cases au:k<ln
 ·have aF:=dT (by omega:k<ln)
  obtain ⟨b,o,S,m,p,hA,am,c0,c1,r2⟩:=HN.out.lt.lut' (k:=k) (by rw [aE.out];exact au)
  obtain ⟨CI,aM⟩:=hd2 c0 r2
  have V:k<l.luts.length:=by rw [aE.out];exact au
  have ao:=Hd (show ((l.luts.take k).flatMap Lt.ins)++(l.luts[k]?.getD Lt.zero).ins=(l.luts.take (k+1)).flatMap Lt.ins from by rw [wS V])
  have af:Hid (∀n∈(l.luts[k]?.getD Lt.zero).ins,0<=n/\n<(C:Int)):=fun n hn=>by
   have h:=(HF.out.luts k V).2.2 n hn
   have h2:=aL.out
   have h3:=aU.out
   omega
  have ah:Hid (((l.luts.take k).flatMap Lt.ins).length+(l.luts[k]?.getD Lt.zero).ins.length<=3000):=by
   show _<=_
   have h1:=congrArg List.length ao.out
   rw [List.length_append] at h1
   have h2:=jM HF.out (k+1)
   have h3:=mf HF.out (k+1)
   have h4:=jM HF.out l.luts.length
   rw [List.take_length] at h4
   (try simp only [List.length_append] at h1 ⊢)
   omega
  subst hA
  clear r2 V c0 c1
  generalize l.luts[k]?.getD Lt.zero=x at *
  generalize (l.luts.take k).flatMap Lt.ins=Z at *
  obtain ⟨i0,i1⟩:=ib (by omega:k<ln)
  obtain ⟨wo,rfl⟩:∃y,y=wr:=⟨wr,rfl⟩
  go_wp2_with fail
  clear x2 lx
  go_loopw [5] (fun i wr=>∃j:Nat,j<=m/\i = .int .i64 (j:Int)/\aJ u wr [.cel (aH (aG C (lI (Z) (x.ins) j))) (.slice (some ⟨u.heap.size,0,none⟩) C C)]) (fun i _=>m - (intOf i).toNat)
  ·exact ⟨0,by omega,rfl,by rw [mg];exact B.out⟩
  obtain ⟨j,hj,rfl,hs⟩:=hrel
  have B:=Hd hs
  have g:=Hd (aM.out.ints)
  have hx:=aD hs.bel Y.out
  obtain ⟨-,-,x2,lx⟩:=jX hx
  have cI:=((aA H.out hs.bel).cell (p:=⟨b,o+k * 2,none⟩) am).trans CI.out
  have bf:=aK (aA H.out hs.bel) am
  clear hx
  by_cases G:j<m
  ·have al:=dT (by omega:j<m)
   obtain ⟨bt,ot,hA,I,J⟩:=g.out.2 (by omega)
   have HA:=Hd hA
   have ar:=((aA H.out hs.bel).cell (p:=⟨bt,ot+j,none⟩) I).trans (J j G)
   have aV:=aK (aA H.out hs.bel) I
   have z:j<(x.ins).length:=by rw [g.out.1];exact G
   have U:=af.out _ (List.getElem_mem z)
   have D:=mi (bs:=Z) z
   rw [List.getElem?_eq_getElem z,Option.getD_some] at ar D
   have K:=ol (Z) (x.ins) j
   have Q:=ah.out
   have ap:=g.out.1
   generalize (x.ins)[j]=x at *
   obtain ⟨X,rfl⟩:=Int.eq_ofNat_of_zero_le U.1
   have ak:X<C:=by omega
   obtain ⟨cX,fX,lX,hN⟩:=om hs ak
   rw [D] at hN
   have ae:=fC (lI (Z) (x.ins) j) (X:Int)
   have aj:=Hd hN
   clear hN D J hs
   generalize cnt (lI (Z) (x.ins) j) (X:Int)=q at *
   have hq:q<=10000:=by omega
   have a0:j<=10000:=by omega
   clear ae K Q ap z U
   obtain ⟨i0,i1⟩:=ib (by omega:j<m)
   obtain ⟨i2,i3⟩:=ib (by omega:X<C)
   subst hA
   go_wp2_with fail
   go_roundw
   ·exact ⟨j+1,by omega,by go_num,aj.out⟩
   simp [intOf];omega
  have R:j=m:=by omega
  have al:=dF (by omega:m<=j)
  have HD:=Hd (show aJ u wr [.cel (aH (aG C ((Z)++(x.ins)))) (.slice (some ⟨u.heap.size,0,none⟩) C C)] from by rw [←mh g.out.1,←R];exact hs)
  clear hs g B R
  have aO:=Hd (show aJ u wr [.cel (aH (aG C ((l.luts.take (k+1)).flatMap Lt.ins))) (.slice (some ⟨u.heap.size,0,none⟩) C C)] from by rw [←ao.out];exact HD.out)
  go_wp2_with fail
  go_roundw
  ·exact ⟨k+1,by omega,by go_num,aO.out⟩
  simp [intOf];omega
 have aq:k=ln:=by omega
 have aF:=dF (by omega:ln<=k)
 have bo:=Hd (show aJ u wr [.cel (aH (aG C (l.luts.flatMap Lt.ins++(l.seqs.take 0).flatMap Sq.ins))) (.slice (some ⟨u.heap.size,0,none⟩) C C)] from by
  have h:=B.out
  rw [aq,←aE.out,List.take_length] at h
  simpa using h)
 clear aq B
 obtain ⟨wo,rfl⟩:∃y,y=wr:=⟨wr,rfl⟩
 go_wp2_with fail
 clear x2 lx
 go_loopw [6] (fun i wr=>∃k:Nat,k<=sn/\i = .int .i64 (k:Int)/\aJ u wr [.cel (aH (aG C (l.luts.flatMap Lt.ins++(l.seqs.take k).flatMap Sq.ins))) (.slice (some ⟨u.heap.size,0,none⟩) C C)]) (fun i _=>sn - (intOf i).toNat)
 ·exact ⟨0,by omega,rfl,bo.out⟩
 obtain ⟨k,hk,rfl,hs⟩:=hrel
 have B:=Hd hs
 obtain ⟨-,x1,lx⟩:=jv (aD hs.bel Y.out)
 clear hs
 by_cases au:k<sn
 ·have aF:=dT (by omega:k<sn)
  obtain ⟨b,o,S,m,p,hA,am,c0,c1,c2,r2⟩:=HN.out.sq.sq' (k:=k) (by rw [aN.out];exact au)
  obtain ⟨CI,aM⟩:=hd2 c2 r2
  have V:k<l.seqs.length:=by rw [aN.out];exact au
  have ao:=Hd (show (l.luts.flatMap Lt.ins++(l.seqs.take k).flatMap Sq.ins)++(l.seqs[k]?.getD Sq.zero).ins=l.luts.flatMap Lt.ins++(l.seqs.take (k+1)).flatMap Sq.ins from by rw [List.append_assoc,uZ V])
  have af:Hid (∀n∈(l.seqs[k]?.getD Sq.zero).ins,0<=n/\n<(C:Int)):=fun n hn=>by
   have h:=(HF.out.seqs k V).2 n hn
   have h2:=aL.out
   have h3:=aU.out
   omega
  have ah:Hid ((l.luts.flatMap Lt.ins++(l.seqs.take k).flatMap Sq.ins).length+(l.seqs[k]?.getD Sq.zero).ins.length<=3000):=by
   show _<=_
   have h1:=congrArg List.length ao.out
   rw [List.length_append] at h1
   have h2:=jM HF.out (k+1)
   have h3:=mf HF.out (k+1)
   have h4:=jM HF.out l.luts.length
   rw [List.take_length] at h4
   (try simp only [List.length_append] at h1 ⊢)
   omega
  subst hA
  clear r2 V c0 c1 c2
  generalize l.seqs[k]?.getD Sq.zero=x at *
  generalize l.luts.flatMap Lt.ins++(l.seqs.take k).flatMap Sq.ins=Z at *
  obtain ⟨i0,i1⟩:=ib (by omega:k<sn)
  obtain ⟨wo,rfl⟩:∃y,y=wr:=⟨wr,rfl⟩
  go_wp2_with fail
  clear x1 lx
  go_loopw [7] (fun i wr=>∃j:Nat,j<=m/\i = .int .i64 (j:Int)/\aJ u wr [.cel (aH (aG C (lI (Z) (x.ins) j))) (.slice (some ⟨u.heap.size,0,none⟩) C C)]) (fun i _=>m - (intOf i).toNat)
  ·exact ⟨0,by omega,rfl,by rw [mg];exact B.out⟩
  obtain ⟨j,hj,rfl,hs⟩:=hrel
  have B:=Hd hs
  have g:=Hd (aM.out.ints)
  have hx:=aD hs.bel Y.out
  obtain ⟨-,x1,lx⟩:=jv hx
  have cI:=((aA H.out hs.bel).cell (p:=⟨b,o+k * 3+2,none⟩) am).trans CI.out
  have bf:=aK (aA H.out hs.bel) am
  clear hx
  by_cases G:j<m
  ·have al:=dT (by omega:j<m)
   obtain ⟨bt,ot,hA,I,J⟩:=g.out.2 (by omega)
   have HA:=Hd hA
   have ar:=((aA H.out hs.bel).cell (p:=⟨bt,ot+j,none⟩) I).trans (J j G)
   have aV:=aK (aA H.out hs.bel) I
   have z:j<(x.ins).length:=by rw [g.out.1];exact G
   have U:=af.out _ (List.getElem_mem z)
   have D:=mi (bs:=Z) z
   rw [List.getElem?_eq_getElem z,Option.getD_some] at ar D
   have K:=ol (Z) (x.ins) j
   have Q:=ah.out
   have ap:=g.out.1
   generalize (x.ins)[j]=x at *
   obtain ⟨X,rfl⟩:=Int.eq_ofNat_of_zero_le U.1
   have ak:X<C:=by omega
   obtain ⟨cX,fX,lX,hN⟩:=om hs ak
   rw [D] at hN
   have ae:=fC (lI (Z) (x.ins) j) (X:Int)
   have aj:=Hd hN
   clear hN D J hs
   generalize cnt (lI (Z) (x.ins) j) (X:Int)=q at *
   have hq:q<=10000:=by omega
   have a0:j<=10000:=by omega
   clear ae K Q ap z U
   obtain ⟨i0,i1⟩:=ib (by omega:j<m)
   obtain ⟨i2,i3⟩:=ib (by omega:X<C)
   subst hA
   go_wp2_with fail
   go_roundw
   ·exact ⟨j+1,by omega,by go_num,aj.out⟩
   simp [intOf];omega
  have R:j=m:=by omega
  have al:=dF (by omega:m<=j)
  have HD:=Hd (show aJ u wr [.cel (aH (aG C ((Z)++(x.ins)))) (.slice (some ⟨u.heap.size,0,none⟩) C C)] from by rw [←mh g.out.1,←R];exact hs)
  clear hs g B R
  have aO:=Hd (show aJ u wr [.cel (aH (aG C (l.luts.flatMap Lt.ins++(l.seqs.take (k+1)).flatMap Sq.ins))) (.slice (some ⟨u.heap.size,0,none⟩) C C)] from by rw [←ao.out];exact HD.out)
  go_wp2_with fail
  go_roundw
  ·exact ⟨k+1,by omega,by go_num,aO.out⟩
  simp [intOf];omega
 have aq:k=sn:=by omega
 have aF:=dF (by omega:sn<=k)
 have bg:=Hd (show aJ u wr [.cel (aH (aG C (l.luts.flatMap Lt.ins++l.seqs.flatMap Sq.ins))) (.slice (some ⟨u.heap.size,0,none⟩) C C)] from by
  have h:=B.out
  rwa [aq,←aN.out,List.take_length] at h)
 have af:Hid (∀n∈l.outs,0<=n/\n<(C:Int)):=fun n hn=>by
  have h:=HF.out.outs n hn
  have h2:=aL.out
  omega
 have ah:Hid ((l.luts.flatMap Lt.ins++l.seqs.flatMap Sq.ins).length+l.outs.length<=3000):=by
  show _<=_
  have h3:=mf HF.out l.seqs.length
  have h4:=jM HF.out l.luts.length
  rw [List.take_length] at h3 h4
  have h5:=HF.out.nout
  rw [List.length_append]
  omega
 clear aq B
 obtain ⟨wo,rfl⟩:∃y,y=wr:=⟨wr,rfl⟩
 go_wp2_with fail
 clear x1 lx
 go_loopw [8] (fun i wr=>∃j:Nat,j<=on/\i = .int .i64 (j:Int)/\aJ u wr [.cel (aH (aG C (lI (l.luts.flatMap Lt.ins++l.seqs.flatMap Sq.ins) (l.outs) j))) (.slice (some ⟨u.heap.size,0,none⟩) C C)]) (fun i _=>on - (intOf i).toNat)
 ·exact ⟨0,by omega,rfl,by rw [mg];exact bg.out⟩
 obtain ⟨j,hj,rfl,hs⟩:=hrel
 have B:=Hd hs
 have g:=Hd (HN.out.ou.ints)
 obtain ⟨-,-,-,x3,lx⟩:=cO (aD hs.bel Y.out)
 by_cases G:j<on
 ·have al:=dT (by omega:j<on)
  obtain ⟨bt,ot,hA,I,J⟩:=g.out.2 (by omega)
  have HA:=Hd hA
  have ar:=((aA H.out hs.bel).cell (p:=⟨bt,ot+j,none⟩) I).trans (J j G)
  have aV:=aK (aA H.out hs.bel) I
  have z:j<(l.outs).length:=by rw [g.out.1];exact G
  have U:=af.out _ (List.getElem_mem z)
  have D:=mi (bs:=l.luts.flatMap Lt.ins++l.seqs.flatMap Sq.ins) z
  rw [List.getElem?_eq_getElem z,Option.getD_some] at ar D
  have K:=ol (l.luts.flatMap Lt.ins++l.seqs.flatMap Sq.ins) (l.outs) j
  have Q:=ah.out
  have ap:=g.out.1
  generalize (l.outs)[j]=x at *
  obtain ⟨X,rfl⟩:=Int.eq_ofNat_of_zero_le U.1
  have ak:X<C:=by omega
  obtain ⟨cX,fX,lX,hN⟩:=om hs ak
  rw [D] at hN
  have ae:=fC (lI (l.luts.flatMap Lt.ins++l.seqs.flatMap Sq.ins) (l.outs) j) (X:Int)
  have aj:=Hd hN
  clear hN D J hs
  generalize cnt (lI (l.luts.flatMap Lt.ins++l.seqs.flatMap Sq.ins) (l.outs) j) (X:Int)=q at *
  have hq:q<=10000:=by omega
  have a0:j<=10000:=by omega
  clear ae K Q ap z U
  obtain ⟨i0,i1⟩:=ib (by omega:j<on)
  obtain ⟨i2,i3⟩:=ib (by omega:X<C)
  subst hA
  go_wp2_with fail
  go_roundw
  ·exact ⟨j+1,by omega,by go_num,aj.out⟩
  simp [intOf];omega
 have R:j=on:=by omega
 have al:=dF (by omega:on<=j)
 have HD:=Hd (show aJ u wr [.cel (aH (aG C ((l.luts.flatMap Lt.ins++l.seqs.flatMap Sq.ins)++(l.outs)))) (.slice (some ⟨u.heap.size,0,none⟩) C C)] from by rw [←mh g.out.1,←R];exact hs)
 clear hs g B R
 go_wp2_with fail
 go_ret
 exact ⟨_,rfl,(HD.out.owned 0 rfl).more (by have:=H.out.size;omega),aA H.out HD.out.bel⟩
theorem rV (l:ag) (SA LA OA:Option Addr) (sn sc ln lc on oc:Nat) (a b:Int) (w:World) (h:fU w l SA LA OA sn sc ln lc on oc) (hf:az l) (he:dG l ⟨a,b⟩) :
  Calls Tryz.prog 204 #[jE l SA LA OA sn sc ln lc on oc,.agg #[.int .i64 a,.int .i64 b]] w fun e w'=>e = .returned (.int .i64 (dA l ⟨a,b⟩))/\Below w.heap.size w w':=by
 have g:dA l ⟨a,b⟩=if 0<=b then 1+l.inputs+b else (l.first:Int)+a:=rfl
 obtain ⟨e1,e2,e3,_⟩:=nI.1 he
 have u:=h.lens.1
 have z:=h.lens.2.1
 rw [u] at e2
 rw [z] at e1
 clear u z
 have J:=Hd (aB (aB (Below.refl w.heap.size w) (.cells (ai l SA LA OA sn sc ln lc on oc) 41)) (.cells #[.int .i64 a,.int .i64 b] 94))
 have hx:=aW (.cells #[.int .i64 a,.int .i64 b] 94) (aI w (.cells (ai l SA LA OA sn sc ln lc on oc) 41))
 have V:=aI (w.alloc (.cells (ai l SA LA OA sn sc ln lc on oc) 41)) (.cells #[.int .i64 a,.int .i64 b] 94)
 simp only [World.size_alloc] at V
 obtain ⟨q,j⟩:=hd2 hx V
 clear hx V
 obtain ⟨G,B,H⟩:=h.lens
 have W:=hf.nseq
 have U:=hf.nlut
 have R:=hf.nout
 have Z:=hf.inp
 rw [G] at W
 rw [B] at U
 rw [H] at R
 obtain ⟨HN,HF,ax,am,ar⟩:=hd5 h hf G B H
 have ad:Hid ((l.first:Int)=1+l.inputs+(sn:Int)):=by show _=_;unfold ag.first;omega
 have au:Hid ((l.count:Int)=1+l.inputs+(sn:Int)+(ln:Int)):=by show _=_;unfold ag.count ag.first;omega
 clear h hf G B H
 by_cases h0:0<=b
 ·have d0:decide (b≥0)=true:=decide_eq_true h0
  rw [if_pos h0] at g
  have D:=Hd g
  clear g e1 e3
  go_enter Tryz.func204,Tryz.ntmps204
  go_upto_region 1 with fail
  generalize (w.alloc (.cells (ai l SA LA OA sn sc ln lc on oc) 41)).alloc (.cells #[.int .i64 a,.int .i64 b] 94)=K at *
  have x0:=aF (k:=0) q.out rfl
  have y1:=aF (k:=1) j.out rfl
  have lx:=aC q.out
  have ly:=aC j.out
  go_wp2_with fail
  go_ret
  exact ⟨aL D.out.symm,J.out⟩
 have d0:decide (b≥0)=false:=decide_eq_false h0
 rw [if_neg h0,ad.out] at g
 have D:=Hd g
 have ha:0<=a:=by omega
 clear g e2 e3 h0
 go_enter Tryz.func204,Tryz.ntmps204
 go_upto_region 1 with fail
 generalize (w.alloc (.cells (ai l SA LA OA sn sc ln lc on oc) 41)).alloc (.cells #[.int .i64 a,.int .i64 b] 94)=K at *
 obtain ⟨x0,x1,x2,x3⟩:=cs4 q.out
 obtain ⟨y0,y1⟩:=cs2 j.out
 have lx:=aC q.out
 have ly:=aC j.out
 go_upto_region 3 with fail
 have Q:=Hd (fun (x:Sub K)=>nY l.inputs SA LA OA sn sc ln lc on oc x.v Z.1 (by omega) (by omega))
 have I:=aY K
 have Y:=aP K
 refine wpB K ?_
 repeat (go_big_quiet_step ((first
  | (go_at_call 156;with_reducible exact aN (Q.out _)))))
 refine wpQuiet_nil ?_
 rintro _ ⟨⟨w5,hD⟩,rfl⟩
 clear I Y
 have HD:=Hd (aA J.out hD)
 clear x0 x1 x2 x3 y0 y1 lx ly hD
 go_wp2_with fail
 go_ret
 exact ⟨aL D.out.symm,HD.out⟩
theorem Di (l:ag) (SA LA OA:Option Addr) (sn sc ln lc on oc:Nat) (a b:Int) (w:World) (h:fU w l SA LA OA sn sc ln lc on oc) (hf:az l) :
  Calls Tryz.prog 254 #[jE l SA LA OA sn sc ln lc on oc,.agg #[.int .i64 a,.int .i64 b]] w fun e w'=>e = .returned (.bool (tb (dG l ⟨a,b⟩)))/\Below w.heap.size w w':=by
 have D:=nI (l:=l) (a:=a) (b:=b)
 have aE:=h.lens.1
 have aH:=h.lens.2.1
 rw [aE,aH] at D
 clear aE aH
 have u:=Hd (aB (aB (Below.refl w.heap.size w) (.cells (ai l SA LA OA sn sc ln lc on oc) 41)) (.cells #[.int .i64 a,.int .i64 b] 94))
 have hx:=aW (.cells #[.int .i64 a,.int .i64 b] 94) (aI w (.cells (ai l SA LA OA sn sc ln lc on oc) 41))
 have hy:=aI (w.alloc (.cells (ai l SA LA OA sn sc ln lc on oc) 41)) (.cells #[.int .i64 a,.int .i64 b] 94)
 simp only [World.size_alloc] at hy
 obtain ⟨g,j⟩:=hd2 hx hy
 clear hx hy
 obtain ⟨aS,aJ,aV⟩:=h.lens
 have bv:=hf.nseq
 have bf:=hf.nlut
 have bn:=hf.nout
 have aT:=hf.inp
 rw [aS] at bv
 rw [aJ] at bf
 rw [aV] at bn
 obtain ⟨HN,HF,a3,bE,bJ⟩:=hd5 h hf aS aJ aV
 have a1:Hid ((l.first:Int)=1+l.inputs+(sn:Int)):=by show _=_;unfold ag.first;omega
 have a8:Hid ((l.count:Int)=1+l.inputs+(sn:Int)+(ln:Int)):=by show _=_;unfold ag.count ag.first;omega
 clear h hf aS aJ aV
 cases ae:inR a (-1) ((ln:Int) - 1) with
 | false =>
  have I:Hid (¬dG l ⟨a,b⟩):=fun h=>by
   have h2:=(D.1 h).1
   rw [aR.2 ⟨h2.1,by omega⟩] at ae
   cases ae
  have H1:=Hd ae
  clear ae D
  go_enter Tryz.func254,Tryz.ntmps254
  go_upto_region 1 with fail
  generalize (w.alloc (.cells (ai l SA LA OA sn sc ln lc on oc) 41)).alloc (.cells #[.int .i64 a,.int .i64 b] 94)=B at *
  have J:=aF (k:=2) g.out rfl
  have y0:=aF (k:=0) j.out rfl
  have W:=aC g.out
  have Q:=aC j.out
  go_wp2_with fail
  refine (aj a (-1) ((ln:Int) - 1) _).mono ?_
  rw [H1.out]
  rintro _ w' ⟨rfl,rfl⟩
  go_wp2_with fail
  go_ret
  exact ⟨aO I.out,u.out⟩
 | true =>
  have ha:=aR.1 ae
  have H1:=Hd ae
  clear ae
  cases ad:inR b (-1) ((sn:Int) - 1) with
  | false =>
   have I:Hid (¬dG l ⟨a,b⟩):=fun h=>by
    have h2:=(D.1 h).2.1
    rw [aR.2 ⟨h2.1,by omega⟩] at ad
    cases ad
   have H2:=Hd ad
   clear ad D
   go_enter Tryz.func254,Tryz.ntmps254
   go_upto_region 1 with fail
   generalize (w.alloc (.cells (ai l SA LA OA sn sc ln lc on oc) 41)).alloc (.cells #[.int .i64 a,.int .i64 b] 94)=B at *
   obtain ⟨-,Z,J⟩:=cs3 g.out
   obtain ⟨y0,Y⟩:=cs2 j.out
   have W:=aC g.out
   have Q:=aC j.out
   go_wp2_with fail
   refine (aj a (-1) ((ln:Int) - 1) _).mono ?_
   rw [H1.out]
   rintro _ w' ⟨rfl,rfl⟩
   go_wp2_with fail
   refine (aj b (-1) ((sn:Int) - 1) _).mono ?_
   rw [H2.out]
   rintro _ w' ⟨rfl,rfl⟩
   go_wp2_with fail
   go_ret
   exact ⟨aO I.out,u.out⟩
  | true =>
   have hb:=aR.1 ad
   have H2:=Hd ad
   clear ad
   by_cases hn:a=-1/\b=-1
   ·have I:Hid (¬dG l ⟨a,b⟩):=fun h=>(D.1 h).2.2.1 hn
    obtain ⟨rfl,rfl⟩:=hn
    clear D
    go_enter Tryz.func254,Tryz.ntmps254
    go_upto_region 1 with fail
    generalize (w.alloc (.cells (ai l SA LA OA sn sc ln lc on oc) 41)).alloc (.cells #[.int .i64 (-1),.int .i64 (-1)] 94)=B at *
    obtain ⟨-,Z,J⟩:=cs3 g.out
    obtain ⟨y0,Y⟩:=cs2 j.out
    have W:=aC g.out
    have Q:=aC j.out
    go_wp2_with fail
    refine (aj (-1) (-1) ((ln:Int) - 1) _).mono ?_
    rw [H1.out]
    rintro _ w' ⟨rfl,rfl⟩
    go_wp2_with fail
    refine (aj (-1) (-1) ((sn:Int) - 1) _).mono ?_
    rw [H2.out]
    rintro _ w' ⟨rfl,rfl⟩
    go_wp2_with fail
    go_ret
    exact ⟨aO I.out,u.out⟩
   have ap:True:=trivial
   have aw:decide (a<0)=false∨decide (a<0)=true/\decide (b<0)=false:=by simp;omega
   by_cases aM:0<=b
   ·have d1:decide (b≥0)=true:=decide_eq_true aM
    have db:decide (b<0)=false:=by simp;omega
    obtain ⟨F,rfl⟩:∃F:Nat,b=(F:Int):=⟨b.toNat,by omega⟩
    rw [Int.toNat_natCast] at D
    have hF:F<sn:=by omega
    obtain ⟨bs,os,IA,im,ic,rfl,aU,c0,c1,c2,r2⟩:=HN.out.sq.sq' (k:=F) (by rw [a3.out];exact hF)
    have bI:(l.seqs[F]?.getD Sq.zero).ins.length=im:=r2.ints.1
    have aZ:=(HF.out.seqs F (by rw [a3.out];exact hF)).1
    have G:=aK u.out aU
    rw [←u.out.cell (p:=⟨bs,os+F * 3,none⟩) aU] at c0
    rw [←u.out.cell (p:=⟨bs,os+F * 3+2,none⟩) aU] at c2
    have bj:=Hd r2
    clear c1 r2
    generalize l.seqs[F]?.getD Sq.zero=s at *
    by_cases hk:s.kind=0
    ·have dk:(s.kind==0)=true:=by simp [hk]
     have bo:(s.kind != 0)=false:=by simp [hk]
     by_cases a5:0<=a
     ·have d2:decide (a<0)=false:=decide_eq_false (by omega)
      have da:decide (a<0)=false:=by simp;omega
      obtain ⟨A,rfl⟩:∃A:Nat,a=(A:Int):=⟨a.toNat,by omega⟩
      have hA:A<ln:=by omega
      have ax:0<im:=by rcases aZ with h|h <;> omega
      obtain ⟨K,hK⟩:∃K:Nat,1+l.inputs+(sn:Int)+(A:Int)=(K:Int):=⟨(1+l.inputs+(sn:Int)+(A:Int)).toNat,by omega⟩
      have al:K<l.count:=by have:=a8.out;omega
      have a7:Ad l ((l.first:Int)+(A:Int))=cnt (ko l) (K:Int):=by rw [ym,a1.out,hK]
      have a0:(l.first:Int)+(A:Int)=(K:Int):=by rw [a1.out,hK]
      rw [a7,a0] at D
      have br:l.count<=1048576:=by have:=a8.out;omega
      have HK:=Hd hK
      obtain ⟨bi,oi,rfl,a4,a2⟩:=bj.out.ints.2 ax
      have ci:=a2 0 ax
      have H:=aK u.out a4
      rw [←u.out.cell (p:=⟨bi,oi+0,none⟩) a4,Nat.add_zero] at ci
      clear a2 aZ ap aw a7 a0 hK
      generalize s.ins[0]?.getD 0=y at *
      have HU:=Hd (fun (v:World) (hv:Below w.heap.size w v)=>zm l (some ⟨bs,os,none⟩) LA OA sn sc ln lc on oc v (HN.out.below hv) HF.out)
      obtain ⟨C,hC⟩:∃C,l.count=C:=⟨_,rfl⟩
      rw [hC] at al br HU
      have HC:=Hd hC
      clear hC
      by_cases hy:y=(K:Int)
      ·by_cases hq:cnt (ko l) (K:Int)=1
       ·have I:Hid (dG l ⟨(A:Int),(F:Int)⟩):=D.2 ⟨⟨by omega,by omega⟩,⟨by omega,by omega⟩,by omega,fun _=>hk,fun _ _=>⟨hy,hq⟩⟩
        have HQ:=Hd hq
        subst hy
        clear D hq hk
        go_enter Tryz.func254,Tryz.ntmps254
        go_upto_region 1 with fail
        generalize (w.alloc (.cells (ai l (some ⟨bs,os,none⟩) LA OA sn sc ln lc on oc) 41)).alloc (.cells #[.int .i64 (A:Int),.int .i64 (F:Int)] 94)=B at *
        obtain ⟨x0,Z,J,x3⟩:=cs4 g.out
        obtain ⟨y0,Y⟩:=cs2 j.out
        have W:=aC g.out
        have Q:=aC j.out
        go_wp2_with fail
        refine (aj (A:Int) (-1) ((ln:Int) - 1) _).mono ?_
        rw [H1.out]
        rintro _ w' ⟨rfl,rfl⟩
        go_wp2_with fail
        refine (aj (F:Int) (-1) ((sn:Int) - 1) _).mono ?_
        rw [H2.out]
        rintro _ w' ⟨rfl,rfl⟩
        go_upto_region 7 with fail
        have ah:=Hd (fun (x:Sub B)=>nY l.inputs (some ⟨bs,os,none⟩) LA OA sn sc ln lc on oc x.v aT.1 (by omega) (by omega))
        have V:=aY B
        have am:=aP B
        refine wpB B ?_
        repeat (go_big_quiet_step ((first
         | (go_at_call 156;with_reducible exact aN (ah.out _)))))
        refine wpQuiet_nil ?_
        rintro _ ⟨⟨w5,z⟩,rfl⟩
        clear V am
        rw [HK.out]
        have HD:=Hd (aA u.out z)
        have R:=Hd (aD z g.out)
        have U:=Hd (aD z j.out)
        have ay:=aK z G
        have aG:=aK z H
        rw [←z.cell (p:=⟨bs,os+F * 3+2,none⟩) G] at c2
        rw [←z.cell (p:=⟨bi,oi,none⟩) H] at ci
        clear x0 Z J x3 y0 Y W Q z c0 G H
        obtain ⟨x0,Z,J,x3⟩:=cs4 R.out
        have Y:=aF (k:=1) U.out rfl
        have W:=aC R.out
        have Q:=aC U.out
        go_wp2_with fail
        refine (HU.out _ HD.out).mono ?_
        rintro _ w6 ⟨UA,rfl,o6,b6⟩
        have aL:=Hd (aA HD.out b6)
        obtain ⟨bu,ou,rfl,bq,ak⟩:=o6.ints.2 (by omega)
        have cu:=ak K al
        rw [jb _ al,HQ.out] at cu
        clear o6 b6 ak x0 Z J x3 Y W Q c2 ci
        go_wp2_with fail
        go_ret
        exact ⟨dU I.out,aL.out⟩
       have I:Hid (¬dG l ⟨(A:Int),(F:Int)⟩):=fun h=>hq ((D.1 h).2.2.2.2 (by omega) (by omega)).2
       have bL:=fC (ko l) (K:Int)
       have HQ:=Hd hq
       subst hy
       clear D hq hk
       go_enter Tryz.func254,Tryz.ntmps254
       go_upto_region 1 with fail
       generalize (w.alloc (.cells (ai l (some ⟨bs,os,none⟩) LA OA sn sc ln lc on oc) 41)).alloc (.cells #[.int .i64 (A:Int),.int .i64 (F:Int)] 94)=B at *
       obtain ⟨x0,Z,J,x3⟩:=cs4 g.out
       obtain ⟨y0,Y⟩:=cs2 j.out
       have W:=aC g.out
       have Q:=aC j.out
       go_wp2_with fail
       refine (aj (A:Int) (-1) ((ln:Int) - 1) _).mono ?_
       rw [H1.out]
       rintro _ w' ⟨rfl,rfl⟩
       go_wp2_with fail
       refine (aj (F:Int) (-1) ((sn:Int) - 1) _).mono ?_
       rw [H2.out]
       rintro _ w' ⟨rfl,rfl⟩
       go_upto_region 7 with fail
       have ah:=Hd (fun (x:Sub B)=>nY l.inputs (some ⟨bs,os,none⟩) LA OA sn sc ln lc on oc x.v aT.1 (by omega) (by omega))
       have V:=aY B
       have am:=aP B
       refine wpB B ?_
       repeat (go_big_quiet_step ((first
        | (go_at_call 156;with_reducible exact aN (ah.out _)))))
       refine wpQuiet_nil ?_
       rintro _ ⟨⟨w5,z⟩,rfl⟩
       clear V am
       rw [HK.out]
       have HD:=Hd (aA u.out z)
       have R:=Hd (aD z g.out)
       have U:=Hd (aD z j.out)
       have ay:=aK z G
       have aG:=aK z H
       rw [←z.cell (p:=⟨bs,os+F * 3+2,none⟩) G] at c2
       rw [←z.cell (p:=⟨bi,oi,none⟩) H] at ci
       clear x0 Z J x3 y0 Y W Q z c0 G H
       obtain ⟨x0,Z,J,x3⟩:=cs4 R.out
       have Y:=aF (k:=1) U.out rfl
       have W:=aC R.out
       have Q:=aC U.out
       go_wp2_with fail
       refine (HU.out _ HD.out).mono ?_
       rintro _ w6 ⟨UA,rfl,o6,b6⟩
       have aL:=Hd (aA HD.out b6)
       obtain ⟨bu,ou,rfl,bq,ak⟩:=o6.ints.2 (by omega)
       have cu:=ak K al
       rw [jb _ al] at cu
       clear o6 b6 ak x0 Z J x3 Y W Q c2 ci
       generalize cnt (ko l) (K:Int)=q at *
       have dq:(((q:Nat):Int)==1)=false:=by have:=HQ.out;simp;omega
       go_wp2_with fail
       go_ret
       exact ⟨aO I.out,aL.out⟩
      have I:Hid (¬dG l ⟨(A:Int),(F:Int)⟩):=fun h=>hy ((D.1 h).2.2.2.2 (by omega) (by omega)).1
      have dy:(y==(K:Int))=false:=by simp;exact hy
      clear D hk hy
      go_enter Tryz.func254,Tryz.ntmps254
      go_upto_region 1 with fail
      generalize (w.alloc (.cells (ai l (some ⟨bs,os,none⟩) LA OA sn sc ln lc on oc) 41)).alloc (.cells #[.int .i64 (A:Int),.int .i64 (F:Int)] 94)=B at *
      obtain ⟨x0,Z,J,x3⟩:=cs4 g.out
      obtain ⟨y0,Y⟩:=cs2 j.out
      have W:=aC g.out
      have Q:=aC j.out
      go_wp2_with fail
      refine (aj (A:Int) (-1) ((ln:Int) - 1) _).mono ?_
      rw [H1.out]
      rintro _ w' ⟨rfl,rfl⟩
      go_wp2_with fail
      refine (aj (F:Int) (-1) ((sn:Int) - 1) _).mono ?_
      rw [H2.out]
      rintro _ w' ⟨rfl,rfl⟩
      go_upto_region 7 with fail
      have ah:=Hd (fun (x:Sub B)=>nY l.inputs (some ⟨bs,os,none⟩) LA OA sn sc ln lc on oc x.v aT.1 (by omega) (by omega))
      have V:=aY B
      have am:=aP B
      refine wpB B ?_
      repeat (go_big_quiet_step ((first
       | (go_at_call 156;with_reducible exact aN (ah.out _)))))
      refine wpQuiet_nil ?_
      rintro _ ⟨⟨w5,z⟩,rfl⟩
      clear V am
      rw [HK.out]
      have HD:=Hd (aA u.out z)
      have R:=Hd (aD z g.out)
      have U:=Hd (aD z j.out)
      have ay:=aK z G
      have aG:=aK z H
      rw [←z.cell (p:=⟨bs,os+F * 3+2,none⟩) G] at c2
      rw [←z.cell (p:=⟨bi,oi,none⟩) H] at ci
      clear x0 Z J x3 y0 Y W Q z c0 G H
      obtain ⟨x0,Z,J,x3⟩:=cs4 R.out
      have Y:=aF (k:=1) U.out rfl
      have W:=aC R.out
      have Q:=aC U.out
      go_wp2_with fail
      go_ret
      exact ⟨aO I.out,HD.out⟩
     have I:Hid (dG l ⟨a,(F:Int)⟩):=D.2 ⟨⟨by omega,by omega⟩,⟨by omega,by omega⟩,hn,fun _=>hk,fun h=>absurd h a5⟩
     have d2:decide (a<0)=true:=decide_eq_true (by omega)
     obtain rfl:a=-1:=by omega
     clear D hk aw ap hn a5
     go_enter Tryz.func254,Tryz.ntmps254
     go_upto_region 1 with fail
     generalize (w.alloc (.cells (ai l (some ⟨bs,os,none⟩) LA OA sn sc ln lc on oc) 41)).alloc (.cells #[.int .i64 (-1),.int .i64 (F:Int)] 94)=B at *
     obtain ⟨-,Z,J⟩:=cs3 g.out
     obtain ⟨y0,Y⟩:=cs2 j.out
     have W:=aC g.out
     have Q:=aC j.out
     go_wp2_with fail
     refine (aj (-1) (-1) ((ln:Int) - 1) _).mono ?_
     rw [H1.out]
     rintro _ w' ⟨rfl,rfl⟩
     go_wp2_with fail
     refine (aj (F:Int) (-1) ((sn:Int) - 1) _).mono ?_
     rw [H2.out]
     rintro _ w' ⟨rfl,rfl⟩
     go_wp2_with fail
     go_ret
     exact ⟨dU I.out,u.out⟩
    have bo:(s.kind != 0)=true:=by simp;exact hk
    have I:Hid (¬dG l ⟨a,(F:Int)⟩):=fun h=>hk ((D.1 h).2.2.2.1 (by omega))
    clear D hk
    rcases aw with da|⟨da,_⟩
    ·clear ap
     go_enter Tryz.func254,Tryz.ntmps254
     go_upto_region 1 with fail
     generalize (w.alloc (.cells (ai l (some ⟨bs,os,none⟩) LA OA sn sc ln lc on oc) 41)).alloc (.cells #[.int .i64 a,.int .i64 (F:Int)] 94)=B at *
     obtain ⟨-,Z,J⟩:=cs3 g.out
     obtain ⟨y0,Y⟩:=cs2 j.out
     have W:=aC g.out
     have Q:=aC j.out
     go_wp2_with fail
     refine (aj a (-1) ((ln:Int) - 1) _).mono ?_
     rw [H1.out]
     rintro _ w' ⟨rfl,rfl⟩
     go_wp2_with fail
     refine (aj (F:Int) (-1) ((sn:Int) - 1) _).mono ?_
     rw [H2.out]
     rintro _ w' ⟨rfl,rfl⟩
     go_wp2_with fail
     go_ret
     exact ⟨aO I.out,u.out⟩
    clear ap
    go_enter Tryz.func254,Tryz.ntmps254
    go_upto_region 1 with fail
    generalize (w.alloc (.cells (ai l (some ⟨bs,os,none⟩) LA OA sn sc ln lc on oc) 41)).alloc (.cells #[.int .i64 a,.int .i64 (F:Int)] 94)=B at *
    obtain ⟨-,Z,J⟩:=cs3 g.out
    obtain ⟨y0,Y⟩:=cs2 j.out
    have W:=aC g.out
    have Q:=aC j.out
    go_wp2_with fail
    refine (aj a (-1) ((ln:Int) - 1) _).mono ?_
    rw [H1.out]
    rintro _ w' ⟨rfl,rfl⟩
    go_wp2_with fail
    refine (aj (F:Int) (-1) ((sn:Int) - 1) _).mono ?_
    rw [H2.out]
    rintro _ w' ⟨rfl,rfl⟩
    go_wp2_with fail
    go_ret
    exact ⟨aO I.out,u.out⟩
   have d1:decide (b≥0)=false:=decide_eq_false aM
   obtain rfl:b=-1:=by omega
   have da:decide (a<0)=false:=by simp;omega
   have I:Hid (dG l ⟨a,-1⟩):=D.2 ⟨⟨by omega,by omega⟩,⟨by omega,by omega⟩,hn,fun h=>by omega,fun _ h=>by omega⟩
   have d2:decide (a<0)=false:=decide_eq_false (by omega)
   clear D hn aM aw ap
   go_enter Tryz.func254,Tryz.ntmps254
   go_upto_region 1 with fail
   generalize (w.alloc (.cells (ai l SA LA OA sn sc ln lc on oc) 41)).alloc (.cells #[.int .i64 a,.int .i64 (-1)] 94)=B at *
   obtain ⟨-,Z,J⟩:=cs3 g.out
   obtain ⟨y0,Y⟩:=cs2 j.out
   have W:=aC g.out
   have Q:=aC j.out
   go_wp2_with fail
   refine (aj a (-1) ((ln:Int) - 1) _).mono ?_
   rw [H1.out]
   rintro _ w' ⟨rfl,rfl⟩
   go_wp2_with fail
   refine (aj (-1) (-1) ((sn:Int) - 1) _).mono ?_
   rw [H2.out]
   rintro _ w' ⟨rfl,rfl⟩
   go_wp2_with fail
   go_ret
   exact ⟨dU I.out,u.out⟩
theorem rX (XA ZA:Option Addr) (xn xc zn zc:Nat) (xs V:List Int) (w:World) (hx:dP w XA xn xs) (hz:dP w ZA zn V) (aM:xn<=1048576) (aX:zn<=1048576) :
  Calls Tryz.prog 242 #[.slice XA xn xc,.slice ZA zn zc] w fun e w'=>∃A n c,e = .returned (.slice A n c)/\Own w.heap.size w' A n c (asc (xs.filter fun x=>decide (0<x/\x∉V)))/\Below w.heap.size w w':=by
 obtain ⟨HX,HZ⟩:=hd2 hx hz
 clear hx hz
 go_enter Tryz.func242,Tryz.ntmps242
 go_wp2_with fail
 refine (oG XA xn xc xs _ HX.out aM).mono ?_
 rintro _ w1 ⟨YA,yc,rfl,⟨ys,Y,ai,ah⟩,b1⟩
 obtain ⟨aV,aO,av,al⟩:=hd4 ai ah b1 Y.ints
 obtain ⟨n,rfl⟩:∃n,n=xn:=⟨xn,rfl⟩
 clear ai ah Y b1
 go_wp2_with fail
 go_loopw [6,7] (fun v i wr=>∃(k:Nat) (A:Option Addr) (m c:Nat),k<=n/\i = .int .i64 (k:Int)/\v = .slice A m c/\m<=k/\aJ w1 wr [.cel (aH (nP V ys k)) (.slice A m c)]) (fun _ i _=>n - (intOf i).toNat)
 ·exact ⟨0,_,_,_,by omega,rfl,rfl,by omega,(aJ.refl w1).pushNew 3 1⟩
 obtain ⟨k,A1,n1,c1,hk,rfl,rfl,a7,hs⟩:=hrel
 have U:=Hd hs
 have ar:=Hd (aA av.out hs.bel)
 clear hs
 by_cases aC:k<n
 ·have aN:=dT (by omega:k<n)
  have aS:k<ys.length:=by rw [al.out.1];exact aC
  obtain ⟨K,Y,aw,aB,ax⟩:=al.out.2 (by omega)
  have aF:=Hd aw
  have W:=(U.out.bel.cell (p:=⟨K,Y+k,none⟩) aB).trans (ax k aC)
  have j:=aK U.out.bel aB
  have g:nP V ys (k+1)=wh V (nP V ys k) (ys[k]?.getD 0):=rfl
  have aW:=(U.out.ints 0 rfl).1
  clear ax aS aw
  obtain rfl:=aF.out
  generalize nP V ys k=out at *
  generalize ys[k]?.getD 0=x at *
  obtain ⟨i0,i1⟩:=ib (by omega:k<n)
  unfold wh at g
  by_cases z:0<x
  ·have dx:decide ((0:Int)<x)=true:=decide_eq_true z
   have Q:=fun (v:Sub wr)=>nM ZA zn zc V x v.v ((HZ.out.below (aA ar.out v.h))) aX
   by_cases G:x∈V
   ·rw [if_neg (fun h=>h.2.1 G)] at g
    have HK:=Hd g
    rw [decide_eq_true G] at Q
    have R:=Hd Q
    clear Q g z G
    go_upto_region 6 with fail
    have q:=aY wr
    have D:=aP wr
    refine wpB wr ?_
    repeat (go_big_quiet_step ((first|(go_at_call 208;with_reducible exact aQ (R.out _)))))
    refine wpQuiet_nil ?_
    rintro wq ⟨⟨w5,u⟩,H⟩
    replace H:wq=w5:=H
    subst H
    clear q D
    have Z:=(u.cell (p:=⟨K,Y+k,none⟩) j).trans W
    have J:=aK u j
    have B:=Hd (U.out.below u)
    clear u W j
    go_wp2_with fail
    go_roundw
    ·exact ⟨k+1,A1,n1,c1,by omega,by go_num,rfl,by omega,by rw [HK.out];exact B.out⟩
    simp [intOf];omega
   rw [decide_eq_false G] at Q
   have R:=Hd Q
   clear Q
   by_cases aU:n1=0
   ·have d0:((n1:Int)==0)=true:=by simp;omega
    have aj:out=[]:=List.eq_nil_of_length_eq_zero (by omega)
    rw [if_pos ⟨z,G,by rw [aj];simp⟩] at g
    have HK:=Hd g
    clear g z G aj aU
    go_upto_region 6 with fail
    have q:=aY wr
    have D:=aP wr
    refine wpB wr ?_
    repeat (go_big_quiet_step ((first|(go_at_call 208;with_reducible exact aQ (R.out _)))))
    refine wpQuiet_nil ?_
    rintro wq ⟨⟨w5,u⟩,H⟩
    replace H:wq=w5:=H
    subst H
    clear q D
    have Z:=(u.cell (p:=⟨K,Y+k,none⟩) j).trans W
    have J:=aK u j
    have B:=Hd (U.out.below u)
    clear u W j d0
    go_wp2_with (at_builtin;refine gF rfl _ _ rfl _ (B.out.alloc _) 0 _ n1 c1 out x _ (0,0) rfl rfl rfl (aI _ _) (by omega) ?_;intro g9 ak w9 S9 am;have ao:=Hd S9;clear S9 am)
    go_roundw
    ·exact ⟨k+1,some ⟨g9,0,none⟩,n1+1,ak,by omega,by go_num,rfl,by omega,by rw [HK.out];exact ao.out⟩
    simp [intOf];omega
   have d0:((n1:Int)==0)=false:=by simp;omega
   obtain ⟨bo,oo,ay,aq,aD⟩:=(U.out.ints 0 rfl).2 (by omega)
   have aG:=Hd ay
   have co:=aD (n1 - 1) (by omega)
   clear aD ay
   obtain rfl:=aG.out
   have I:out.getLast?=some (out[n1 - 1]?.getD 0):=by rw [List.getLast?_eq_getElem?,aW,List.getElem?_eq_getElem (by omega)];rfl
   generalize out[n1 - 1]?.getD 0=y at *
   have in1:(0:Int)<=(n1:Int) - 1:=by omega
   have in2:(n1:Int) - 1<(n1:Int):=by omega
   have in3:((n1:Int) - 1).toNat=n1 - 1:=by omega
   have e3:IntKind.i64.wrap ((n1:Int) - 1)=(n1:Int) - 1:=IntWalk.i64_in _ (by omega)
   by_cases af:y=x
   ·subst af
    rw [if_neg (fun h=>h.2.2 I)] at g
    have HK:=Hd g
    clear g z G I
    go_upto_region 6 with fail
    have q:=aY wr
    have D:=aP wr
    refine wpB wr ?_
    repeat (go_big_quiet_step ((first|(go_at_call 208;with_reducible exact aQ (R.out _)))))
    refine wpQuiet_nil ?_
    rintro wq ⟨⟨w5,u⟩,H⟩
    replace H:wq=w5:=H
    subst H
    clear q D
    have Z:=(u.cell (p:=⟨K,Y+k,none⟩) j).trans W
    have J:=aK u j
    have B:=Hd (U.out.below u)
    clear u W j co aq in1 in2 in3 e3
    go_wp2_with fail
    go_roundw
    ·exact ⟨k+1,_,n1,c1,by omega,by go_num,rfl,by omega,by rw [HK.out];exact B.out⟩
    simp [intOf];omega
   have dy:(y != x)=true:=by simp [af]
   rw [if_pos ⟨z,G,by rw [I];intro h;injection h with h;exact af h⟩] at g
   have HK:=Hd g
   clear g z G I af
   go_upto_region 6 with fail
   have q:=aY wr
   have D:=aP wr
   refine wpB wr ?_
   repeat (go_big_quiet_step ((first|(go_at_call 208;with_reducible exact aQ (R.out _)))))
   refine wpQuiet_nil ?_
   rintro wq ⟨⟨w5,u⟩,H⟩
   replace H:wq=w5:=H
   subst H
   clear q D
   have Z:=(u.cell (p:=⟨K,Y+k,none⟩) j).trans W
   have J:=aK u j
   have B:=Hd (U.out.below u)
   clear u W j co aq in1 in2 in3 e3
   go_wp2_with (at_builtin;refine gF rfl _ _ rfl _ (B.out.alloc _) 0 _ n1 c1 out x _ (0,0) rfl rfl rfl (aI _ _) (by omega) ?_;intro g9 ak w9 S9 am;have ao:=Hd S9;clear S9 am)
   go_roundw
   ·exact ⟨k+1,some ⟨g9,0,none⟩,n1+1,ak,by omega,by go_num,rfl,by omega,by rw [HK.out];exact ao.out⟩
   simp [intOf];omega
  have dx:decide ((0:Int)<x)=false:=decide_eq_false z
  rw [if_neg (fun h=>z h.1)] at g
  have HK:=Hd g
  clear g z
  go_upto_region 6 with fail
  have q:=aY wr
  have D:=aP wr
  refine wpB wr ?_
  repeat (go_big_quiet_step ((fail)))
  refine wpQuiet_nil ?_
  rintro wq ⟨⟨w5,u⟩,H⟩
  replace H:wq=w5:=H
  subst H
  clear q D
  have Z:=(u.cell (p:=⟨K,Y+k,none⟩) j).trans W
  have J:=aK u j
  have B:=Hd (U.out.below u)
  clear u W j
  go_wp2_with fail
  go_roundw
  ·exact ⟨k+1,A1,n1,c1,by omega,by go_num,rfl,by omega,by rw [HK.out];exact B.out⟩
  simp [intOf];omega
 have az:k=n:=by omega
 have aN:=dF (by omega:n<=k)
 have HD:Hid (Own w.heap.size wr A1 n1 c1 (asc (xs.filter fun x=>decide (0<x/\x∉V)))):=by
  have h:=(U.out.owned 0 rfl).more av.out.size
  rw [az,←al.out.1,Af aO.out aV.out] at h
  exact h
 clear U az
 go_wp2_with fail
 go_ret
 exact ⟨_,_,_,rfl,HD.out,ar.out⟩
theorem BQ (l:ag) (SA LA OA:Option Addr) (sn sc ln lc on oc:Nat) (a b:Int) (w:World) (h:fU w l SA LA OA sn sc ln lc on oc) (hf:az l) (he:dG l ⟨a,b⟩) :
  Calls Tryz.prog 241 #[jE l SA LA OA sn sc ln lc on oc,.agg #[.int .i64 a,.int .i64 b]] w fun e w'=>∃A n c,e = .returned (.slice A n c)/\Own w.heap.size w' A n c (iB l ⟨a,b⟩)/\Below w.heap.size w w':=by
 have hk:=Ag (l:=l) (e:=⟨a,b⟩) fun x hx=>((qc hf he).2 x hx).1
 have W:qL l ⟨a,b⟩=if 0<=a then (l.luts[a.toNat]?.getD Lt.zero).ins else (l.seqs[b.toNat]?.getD Sq.zero).ins:=rfl
 obtain ⟨e1,e2,e3,_⟩:=nI.1 he
 have q:=(qc hf he).1
 rw [W] at q hk
 have j:=hk.symm
 clear hk W
 have g:=Hd (aB (aB (Below.refl w.heap.size w) (.cells (ai l SA LA OA sn sc ln lc on oc) 41)) (.cells #[.int .i64 a,.int .i64 b] 94))
 have hx:=aW (.cells #[.int .i64 a,.int .i64 b] 94) (aI w (.cells (ai l SA LA OA sn sc ln lc on oc) 41))
 have hy:=aI (w.alloc (.cells (ai l SA LA OA sn sc ln lc on oc) 41)) (.cells #[.int .i64 a,.int .i64 b] 94)
 simp only [World.size_alloc] at hy
 obtain ⟨z,B⟩:=hd2 hx hy
 clear hx hy
 obtain ⟨H,D,R⟩:=h.lens
 have au:=hf.nseq
 have aj:=hf.nlut
 have ap:=hf.nout
 have aM:=hf.inp
 rw [H] at au
 rw [D] at aj
 rw [R] at ap
 obtain ⟨HN,HF,Z,U,aJ⟩:=hd5 h hf H D R
 have aD:Hid ((l.first:Int)=1+l.inputs+(sn:Int)):=by show _=_;unfold ag.first;omega
 have aL:Hid ((l.count:Int)=1+l.inputs+(sn:Int)+(ln:Int)):=by show _=_;unfold ag.count ag.first;omega
 clear h hf H D R
 by_cases h0:0<=a
 ·have d0:decide (a≥0)=true:=decide_eq_true h0
  rw [if_pos h0] at j q
  obtain ⟨X,rfl⟩:∃X:Nat,a=(X:Int):=⟨a.toNat,by omega⟩
  rw [Int.toNat_natCast] at j q
  have hX:X<ln:=by have:=U.out;omega
  obtain ⟨bb,Y,S,m,p,rfl,u,c0,c1,K⟩:=HN.out.lt.lut' (k:=X) (by rw [U.out];exact hX)
  have ak:=aK g.out u
  rw [←g.out.cell (p:=⟨bb,Y+X * 2,none⟩) u] at c0
  have G:=Hd K.ints
  rw [K.ints.1] at q
  have J:=Hd j
  clear c1 K j e1 e2 e3 he
  generalize (l.luts[X]?.getD Lt.zero).ins=src at *
  go_enter Tryz.func241,Tryz.ntmps241
  go_upto_region 1 with fail
  generalize (w.alloc (.cells (ai l SA (some ⟨bb,Y,none⟩) OA sn sc ln lc on oc) 41)).alloc (.cells #[.int .i64 (X:Int),.int .i64 b] 94)=W9 at *
  have x2:=aF (k:=2) z.out rfl
  have y0:=aF (k:=0) B.out rfl
  have lx:=aC z.out
  have ly:=aC B.out
  go_wp2_with fail
  clear x2 y0 lx ly c0
  refine (rX S _ m p 0 0 src [] _ (G.out.below (aB (aA g.out (Below.refl _ _)) _)) ⟨rfl,fun h=>by omega⟩ (by omega) (by omega)).mono ?_
  rintro _ w1 ⟨A1,n1,c1,rfl,o1,V⟩
  have Q:=Hd (show Own w.heap.size w1 A1 n1 c1 _ from o1.more (Nat.le_trans g.out.size (by simp)))
  have I:=Hd (aA (aB g.out _) V)
  clear o1 V
  go_wp2_with fail
  go_ret
  exact ⟨_,_,_,rfl,by rw [J.out];exact Q.out,I.out⟩
 have d0:decide (a≥0)=false:=decide_eq_false h0
 rw [if_neg h0] at j q
 obtain ⟨X,rfl⟩:∃X:Nat,b=(X:Int):=⟨b.toNat,by omega⟩
 rw [Int.toNat_natCast] at j q
 have hX:X<sn:=by have:=Z.out;omega
 obtain ⟨bb,Y,S,m,p,rfl,u,c0,c1,c2,K⟩:=HN.out.sq.sq' (k:=X) (by rw [Z.out];exact hX)
 have ak:=aK g.out u
 rw [←g.out.cell (p:=⟨bb,Y+X * 3+2,none⟩) u] at c2
 have G:=Hd K.ints
 rw [K.ints.1] at q
 have J:=Hd j
 clear c0 c1 K j e1 e2 e3 he
 generalize (l.seqs[X]?.getD Sq.zero).ins=src at *
 go_enter Tryz.func241,Tryz.ntmps241
 go_upto_region 1 with fail
 generalize (w.alloc (.cells (ai l (some ⟨bb,Y,none⟩) LA OA sn sc ln lc on oc) 41)).alloc (.cells #[.int .i64 a,.int .i64 (X:Int)] 94)=W9 at *
 have x1:=aF (k:=1) z.out rfl
 obtain ⟨y0,y1⟩:=cs2 B.out
 have lx:=aC z.out
 have ly:=aC B.out
 go_wp2_with fail
 clear x1 y0 y1 lx ly c2
 refine (rX S _ m p 0 0 src [] _ (G.out.below (aB (aA g.out (Below.refl _ _)) _)) ⟨rfl,fun h=>by omega⟩ (by omega) (by omega)).mono ?_
 rintro _ w1 ⟨A1,n1,c1,rfl,o1,V⟩
 have Q:=Hd (show Own w.heap.size w1 A1 n1 c1 _ from o1.more (Nat.le_trans g.out.size (by simp)))
 have I:=Hd (aA (aB g.out _) V)
 clear o1 V
 go_wp2_with fail
 go_ret
 exact ⟨_,_,_,rfl,by rw [J.out];exact Q.out,I.out⟩
end Go.Proofs.YtofihjoanjkdmaaGreat
