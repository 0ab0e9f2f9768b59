/- The reference's test whether a network of look-up tables is valid: its parts (printed by mklns.py). -/
import Derived.Test.YtofihjoanjkdmaaGreatLayF3
import Derived.Test.YtofihjoanjkdmaaGreatRtS3
namespace Go.Proofs.YtofihjoanjkdmaaGreat
set_option maxHeartbeats 4000000
set_option maxRecDepth 100000
open Go.RowKit
theorem nk (g:Int) (SA LA OA:Option Addr) (sn sc ln lc on oc:Nat) (w:World) (h0:0<=g) (h1:g<=1099511627776) (h2:sn<=1099511627776) :
  Calls Tryz.prog 156 #[.agg #[.int .i64 g,.slice SA sn sc,.slice LA ln lc,.slice OA on oc]] w fun e w'=>e = .returned (.int .i64 (1+g+(sn:Int)))/\Below w.heap.size w w':=by
 go_enter Tryz.func156,Tryz.ntmps156
 go_wp2
 go_ret
 exact ⟨rfl,aD (Below.refl _ _) _⟩
theorem mR (A:Option Addr) (n c:Nat) (xs:List Int) (m:Int) (w:World) (h:dE w A n xs) (hn:n<=1048576) (_:0<=m/\m<=1048576) :
  Calls Tryz.prog 154 #[.slice A n c,.int .i64 m] w fun e w'=>e = .returned (.bool (tb (jr xs m)))/\w=w':=by
 have U:=Hd h
 clear h
 go_enter Tryz.func154,Tryz.ntmps154
 go_wp2_with fail
 go_loopw [5] (fun i wr=>∃k:Nat,k<=n/\i = .int .i64 (k:Int)/\w=wr/\∀j,j<k→0<=xs[j]?.getD 0/\xs[j]?.getD 0<m) (fun i _=>n - (intOf i).toNat)
 ·exact ⟨0,by omega,rfl,rfl,fun j hj=>by omega⟩
 obtain ⟨k,hk,rfl,rfl,g⟩:=hrel
 have q:=Hd g
 clear g
 by_cases H:k<n
 ·have K:=dT (by omega:k<n)
  obtain ⟨b,o,rfl,hb,hc⟩:=U.out.2 (by omega)
  have I:=hc k H
  have D:k<xs.length:=by rw [U.out.1];exact H
  have G:=Hd (List.getElem_mem D)
  have B:Hid (0<=xs[k]?.getD 0/\xs[k]?.getD 0<m→∀j,j<k+1→0<=xs[j]?.getD 0/\xs[j]?.getD 0<m):=fun h=>bU q.out h
  rw [List.getElem?_eq_getElem D,Option.getD_some] at I B
  generalize xs[k]=x at *
  obtain ⟨Y,Z⟩:=ib (by omega:k<n)
  clear hc
  by_cases z:x<0
  ·have R:Hid (¬jr xs m):=fun h=>by have:=(h x G.out).1;omega
   have W:decide (x<0)=true:=decide_eq_true z
   clear B z
   go_wp2_with fail
   go_ret
   exact ⟨aO R.out,rfl⟩
  have W:decide (x<0)=false:=decide_eq_false z
  by_cases u:x<m
  ·have J:=Hd (B.out ⟨by omega,u⟩)
   have hd2:decide (x≥m)=false:=decide_eq_false (by omega)
   clear B u
   go_wp2_with fail
   go_roundw
   ·exact ⟨k+1,by omega,by go_num,by first|rfl|trivial,J.out⟩
   simp [intOf];omega
  have R:Hid (¬jr xs m):=fun h=>u (h x G.out).2
  have hd2:decide (x≥m)=true:=decide_eq_true (by omega)
  clear B
  go_wp2_with fail
  go_ret
  exact ⟨aO R.out,rfl⟩
 have Q:k=n:=by omega
 subst Q
 have K:decide ((k:Int)<(k:Int))=false:=by simp
 go_wp2_with fail
 go_ret
 refine ⟨dU fun x V=>?_,rfl⟩
 obtain ⟨j,hj,rfl⟩:=List.getElem_of_mem V
 have:=q.out j (by rw [←U.out.1];exact hj)
 rwa [List.getElem?_eq_getElem hj,Option.getD_some] at this
theorem qx (l:ai) (SA LA OA:Option Addr) (sn sc ln lc on oc:Nat) (w:World) (hi:0<=l.inputs/\l.inputs<=20) (h1:sn<=12) (h2:ln<=400) (h3:on<=16) :
  Calls Tryz.prog 153 #[jI l SA LA OA sn sc ln lc on oc] w fun e w'=>e = .returned (.int .i64 (1+l.inputs+(sn:Int)+(ln:Int)))/\Below w.heap.size w w':=by
 have g:=Hd (aD (Below.refl w.heap.size w) (.cells (ak l SA LA OA sn sc ln lc on oc) 41))
 have j:Hid (inR l.inputs 0 20=true):=aU.2 hi
 have q:decide ((12:Int)<(sn:Int))=false:=decide_eq_false (by omega)
 have z:decide ((400:Int)<(ln:Int))=false:=decide_eq_false (by omega)
 have B:decide ((16:Int)<(on:Int))=false:=decide_eq_false (by omega)
 go_enter Tryz.func153,Tryz.ntmps153
 go_wp2_with fail
 refine (aj l.inputs 0 20 _).mono ?_
 rw [j.out]
 rintro _ u ⟨rfl,rfl⟩
 go_wp2_with fail
 go_ret
 exact ⟨rfl,g.out⟩
theorem yG (l:ai) (SA LA OA:Option Addr) (sn sc ln lc on oc:Nat) (w:World) (h:¬((0<=l.inputs/\l.inputs<=20)/\sn<=12/\ln<=400/\on<=16)) :
  Calls Tryz.prog 153 #[jI l SA LA OA sn sc ln lc on oc] w fun e w'=>e = .returned (.int .i64 0)/\Below w.heap.size w w':=by
 have g:=Hd (aD (Below.refl w.heap.size w) (.cells (ak l SA LA OA sn sc ln lc on oc) 41))
 cases hr:inR l.inputs 0 20 with
 | false =>
  have j:=Hd hr
  clear hr h
  go_enter Tryz.func153,Tryz.ntmps153
  go_wp2_with fail
  refine (aj l.inputs 0 20 _).mono ?_
  rw [j.out]
  rintro _ q ⟨rfl,rfl⟩
  go_wp2_with fail
  go_ret
  exact ⟨rfl,g.out⟩
 | true =>
  have j:=Hd hr
  have hi:=aU.1 hr
  clear hr
  by_cases h1:sn<=12
  ·have u:decide ((12:Int)<(sn:Int))=false:=decide_eq_false (by omega)
   by_cases h2:ln<=400
   ·have z:decide ((400:Int)<(ln:Int))=false:=decide_eq_false (by omega)
    have h3:¬on<=16:=fun h3=>h ⟨hi,h1,h2,h3⟩
    have B:decide ((16:Int)<(on:Int))=true:=decide_eq_true (by omega)
    clear h h1 h2 h3 hi
    go_enter Tryz.func153,Tryz.ntmps153
    go_wp2_with fail
    refine (aj l.inputs 0 20 _).mono ?_
    rw [j.out]
    rintro _ q ⟨rfl,rfl⟩
    go_wp2_with fail
    go_ret
    exact ⟨rfl,g.out⟩
   have z:decide ((400:Int)<(ln:Int))=true:=decide_eq_true (by omega)
   clear h h1 h2 hi
   go_enter Tryz.func153,Tryz.ntmps153
   go_wp2_with fail
   refine (aj l.inputs 0 20 _).mono ?_
   rw [j.out]
   rintro _ q ⟨rfl,rfl⟩
   go_wp2_with fail
   go_ret
   exact ⟨rfl,g.out⟩
  have u:decide ((12:Int)<(sn:Int))=true:=decide_eq_true (by omega)
  clear h h1 hi
  go_enter Tryz.func153,Tryz.ntmps153
  go_wp2_with fail
  refine (aj l.inputs 0 20 _).mono ?_
  rw [j.out]
  rintro _ q ⟨rfl,rfl⟩
  go_wp2_with fail
  go_ret
  exact ⟨rfl,g.out⟩
theorem zk (n:Nat) (w:World) (hn:n<=4) :
  Calls Tryz.prog 239 #[.int .i64 (n:Int)] w fun e w'=>e = .returned (.int .i64 (((2 ^ 2 ^ n:Nat):Int) - 1))/\w=w':=by
 have hc:n=0∨n=1∨n=2∨n=3∨n=4:=by omega
 rcases hc with rfl|rfl|rfl|rfl|rfl
 ·show Calls Tryz.prog 239 #[.int .i64 0] w fun e w'=>e = .returned (.int .i64 1)/\w=w'
  go_enter Tryz.func239,Tryz.ntmps239
  go_wp2
  go_ret
  exact ⟨rfl,rfl⟩
 ·show Calls Tryz.prog 239 #[.int .i64 1] w fun e w'=>e = .returned (.int .i64 3)/\w=w'
  go_enter Tryz.func239,Tryz.ntmps239
  go_wp2
  go_ret
  exact ⟨rfl,rfl⟩
 ·show Calls Tryz.prog 239 #[.int .i64 2] w fun e w'=>e = .returned (.int .i64 15)/\w=w'
  go_enter Tryz.func239,Tryz.ntmps239
  go_wp2
  go_ret
  exact ⟨rfl,rfl⟩
 ·show Calls Tryz.prog 239 #[.int .i64 3] w fun e w'=>e = .returned (.int .i64 255)/\w=w'
  go_enter Tryz.func239,Tryz.ntmps239
  go_wp2
  go_ret
  exact ⟨rfl,rfl⟩
 show Calls Tryz.prog 239 #[.int .i64 4] w fun e w'=>e = .returned (.int .i64 65535)/\w=w'
 go_enter Tryz.func239,Tryz.ntmps239
 go_wp2
 go_ret
 exact ⟨rfl,rfl⟩
theorem yH (n:Nat) (m:Int) (w:World) :
  Calls Tryz.prog 155 #[.agg #[.int .i64 (n:Int),.int .i64 m]] w fun e w'=>e = .returned (.bool (tb (iP n m)))/\Below w.heap.size w w':=by
 have B:=Hd (aD (Below.refl w.heap.size w) (.cells #[.int .i64 (n:Int),.int .i64 m] 188))
 have Y:=aI w (.cells #[.int .i64 (n:Int),.int .i64 m] 188)
 obtain ⟨Q,R,U⟩:=fZ Y
 have D:Hid (iP n m↔inR (n:Int) 0 4=true/\0<=m/\m<=((2 ^ 2 ^ n:Nat):Int) - 1):=by
  show _↔_
  rw [aU]
  unfold iP
  have e:((2 ^ 2 ^ n:Nat):Int)=2 ^ 2 ^ n:=by simp
  rw [e]
  omega
 clear Y
 have I:=fun (x:Sub (w.alloc (.cells #[.int .i64 (n:Int),.int .i64 m] 188)))=>aj (n:Int) 0 4 x.v
 cases hr:inR (n:Int) 0 4 with
 | false =>
  rw [hr] at I
  have H:Hid (¬iP n m):=fun h=>by rw [(D.out.1 h).1] at hr;cases hr
  have K:=Hd I
  clear hr I D
  go_enter Tryz.func155,Tryz.ntmps155
  go_upto_region 1 with fail
  generalize w.alloc (.cells #[.int .i64 (n:Int),.int .i64 m] 188)=u at *
  have g:=aX u
  have j:=aP u
  refine wpB u ?_
  repeat (go_big_quiet_step ((first
   | (go_at_call 83;with_reducible exact aR (K.out _)))))
  refine wpQuiet_nil ?_
  rintro _ ⟨⟨W,z⟩,rfl⟩
  clear g j
  have G:=Hd (aA B.out z)
  clear z Q R U
  go_wp2_with fail
  go_ret
  exact ⟨aO H.out,G.out⟩
 | true =>
  rw [hr] at I
  have K:=Hd I
  have V:n<=4:=by have:=aU.1 hr;omega
  have J:=Hd (fun (x:Sub (w.alloc (.cells #[.int .i64 (n:Int),.int .i64 m] 188)))=>zk n x.v V)
  have HR:=Hd hr
  clear hr I
  generalize ((2 ^ 2 ^ n:Nat):Int) - 1=q at *
  by_cases h0:0<=m
  ·have d0:decide (m≥0)=true:=decide_eq_true h0
   by_cases h1:m<=q
   ·have Z:decide (m<=q)=true:=decide_eq_true h1
    have H:Hid (iP n m):=D.out.2 ⟨HR.out,h0,h1⟩
    clear D h1
    go_enter Tryz.func155,Tryz.ntmps155
    go_upto_region 1 with fail
    generalize w.alloc (.cells #[.int .i64 (n:Int),.int .i64 m] 188)=u at *
    have g:=aX u
    have j:=aP u
    refine wpB u ?_
    repeat (go_big_quiet_step ((first
     | (go_at_call 83;with_reducible exact aR (K.out _))
     | (go_at_call 239;with_reducible exact aR (J.out _)))))
    refine wpQuiet_nil ?_
    rintro _ ⟨⟨W,z⟩,rfl⟩
    clear g j
    have G:=Hd (aA B.out z)
    clear z Q R U
    go_wp2_with fail
    go_ret
    exact ⟨dU H.out,G.out⟩
   have Z:decide (m<=q)=false:=decide_eq_false h1
   have H:Hid (¬iP n m):=fun h=>h1 (D.out.1 h).2.2
   clear D h1
   go_enter Tryz.func155,Tryz.ntmps155
   go_upto_region 1 with fail
   generalize w.alloc (.cells #[.int .i64 (n:Int),.int .i64 m] 188)=u at *
   have g:=aX u
   have j:=aP u
   refine wpB u ?_
   repeat (go_big_quiet_step ((first
    | (go_at_call 83;with_reducible exact aR (K.out _))
    | (go_at_call 239;with_reducible exact aR (J.out _)))))
   refine wpQuiet_nil ?_
   rintro _ ⟨⟨W,z⟩,rfl⟩
   clear g j
   have G:=Hd (aA B.out z)
   clear z Q R U
   go_wp2_with fail
   go_ret
   exact ⟨aO H.out,G.out⟩
  have d0:decide (m≥0)=false:=decide_eq_false h0
  have H:Hid (¬iP n m):=fun h=>h0 (D.out.1 h).2.1
  clear D h0
  go_enter Tryz.func155,Tryz.ntmps155
  go_upto_region 1 with fail
  generalize w.alloc (.cells #[.int .i64 (n:Int),.int .i64 m] 188)=u at *
  have g:=aX u
  have j:=aP u
  refine wpB u ?_
  repeat (go_big_quiet_step ((first
   | (go_at_call 83;with_reducible exact aR (K.out _)))))
  refine wpQuiet_nil ?_
  rintro _ ⟨⟨W,z⟩,rfl⟩
  clear g j
  have G:=Hd (aA B.out z)
  clear z Q R U
  go_wp2_with fail
  go_ret
  exact ⟨aO H.out,G.out⟩
theorem dM (l:ai) (SA LA OA:Option Addr) (sn sc ln lc on oc:Nat) (w:World) (h:fo w l SA LA OA sn sc ln lc on oc) :
  Calls Tryz.prog 81 #[jI l SA LA OA sn sc ln lc on oc] w fun e w'=>e = .returned (.bool (tb (bA l)))/\Below w.heap.size w w':=by
 have u:=Hd (aD (Below.refl w.heap.size w) (.cells (ak l SA LA OA sn sc ln lc on oc) 41))
 have bq:=Hd (aI w (.cells (ak l SA LA OA sn sc ln lc on oc) 41))
 obtain ⟨aY,aW,a3⟩:=h.lens
 obtain ⟨HN,U,Z,aZ⟩:=hd4 h aY aW a3
 clear h aY aW a3
 by_cases hz:(0<=l.inputs/\l.inputs<=20)/\sn<=12/\ln<=400/\on<=16
 ·obtain ⟨aV,aM,bw,bm⟩:=hz
  have HC:Hid ((l.count:Int)=1+l.inputs+(sn:Int)+(ln:Int)):=by show _=_;have:=U.out;have:=Z.out;unfold ai.count ai.first;omega
  have a8:Hid ((l.first:Int)=1+l.inputs+(sn:Int)):=by show _=_;have:=U.out;unfold ai.first;omega
  have bG:((1+l.inputs+(sn:Int)+(ln:Int))==0)=false:=by simp;omega
  have aG:Hid (0<=1+l.inputs+(sn:Int)+(ln:Int)/\1+l.inputs+(sn:Int)+(ln:Int)<=1048576):=⟨by omega,by omega⟩
  have ad:=Hd aV
  clear aV
  go_enter Tryz.func81,Tryz.ntmps81
  go_wp2_with fail
  refine (qx l SA LA OA sn sc ln lc on oc _ ad.out aM bw bm).mono ?_
  rintro _ w1 ⟨rfl,b1⟩
  have J:=Hd b1
  have aE:=Hd (aC b1 bq.out)
  obtain ⟨-,x1,x2,x3,lx⟩:=bX aE.out
  clear b1
  go_wp2_with fail
  refine (mR OA on oc l.outs _ _ (HN.out.below (aA u.out J.out)).ou.ints (by omega) aG.out).mono ?_
  by_cases W:jr l.outs (1+l.inputs+(sn:Int)+(ln:Int))
  ·rw [ae W]
   have bs:=Hd W
   clear W
   rintro _ w2 ⟨rfl,rfl⟩
   go_wp2_with fail
   clear x1 x2 x3 lx
   go_loopw [4] (fun i wr=>∃k:Nat,k<=sn/\i = .int .i64 (k:Int)/\Below w1.heap.size w1 wr/\∀j,j<k→jv (l.seqs[j]?.getD Sq.zero).kind (l.seqs[j]?.getD Sq.zero).init (l.seqs[j]?.getD Sq.zero).ins.length/\jr (l.seqs[j]?.getD Sq.zero).ins (1+l.inputs+(sn:Int)+(ln:Int))) (fun i _=>sn - (intOf i).toNat)
   ·exact ⟨0,by omega,rfl,Below.refl _ _,fun j hj=>by omega⟩
   obtain ⟨k,hk,rfl,hb,H⟩:=hrel
   obtain ⟨K,B⟩:=hd2 hb H
   clear hb H
   by_cases a0:k<sn
   ·have bv:=dT (by omega:k<sn)
    have aF:=Hd (HN.out.below (aA (aA u.out J.out) K.out))
    obtain ⟨b,o,S,m,p,rfl,bu,c0,c1,c2,r2⟩:=aF.out.sq.sq' (k:=k) (by rw [U.out];exact a0)
    have hm:(l.seqs[k]?.getD Sq.zero).ins.length=m:=r2.ints.1
    have aq:=Hd r2
    have Q:Hid (jv (l.seqs[k]?.getD Sq.zero).kind (l.seqs[k]?.getD Sq.zero).init m/\jr (l.seqs[k]?.getD Sq.zero).ins (1+l.inputs+(sn:Int)+(ln:Int))→∀j,j<k+1→jv (l.seqs[j]?.getD Sq.zero).kind (l.seqs[j]?.getD Sq.zero).init (l.seqs[j]?.getD Sq.zero).ins.length/\jr (l.seqs[j]?.getD Sq.zero).ins (1+l.inputs+(sn:Int)+(ln:Int))):=fun h=>bU B.out (by rw [hm];exact h)
    have g:Hid (¬(jv (l.seqs[k]?.getD Sq.zero).kind (l.seqs[k]?.getD Sq.zero).init m/\jr (l.seqs[k]?.getD Sq.zero).ins (1+l.inputs+(sn:Int)+(ln:Int)))→¬bA l):=fun h hf=>h (by
     have h1:=hf.seqs k (by rw [U.out];exact a0)
     rw [hm] at h1
     exact ⟨h1.1,by rw [←HC.out];exact h1.2⟩)
    generalize l.seqs[k]?.getD Sq.zero=s at *
    obtain ⟨i0,i1⟩:=ib (by omega:k<sn)
    clear r2 hm
    have z:=Hd (aD (Below.refl wr.heap.size wr) (.cells #[.int .i64 s.kind,.int .i64 s.init,.slice S m p] 91))
    obtain ⟨y0,y1,y2,ly⟩:=jU (aI wr (.cells #[.int .i64 s.kind,.int .i64 s.init,.slice S m p] 91))
    obtain ⟨-,x1,lx⟩:=fZ (aC K.out aE.out)
    by_cases h0:s.kind=0
    ·have q0:(s.kind==0)=true:=by simp [h0]
     have q1:(s.kind==1)=false:=by simp [h0]
     cases hr:inR s.init 0 1 with
     | false =>
      have D:Hid (¬bA l):=g.out fun h=>by
       rcases h.1 with h|h
       ·rw [aU.2 h.2.1] at hr;cases hr
       omega
      have HR:=Hd hr
      clear hr h0
      go_wp2_with fail
      refine (aj s.init 0 1 _).mono ?_
      rw [HR.out]
      rintro _ w' ⟨rfl,rfl⟩
      clear Q g
      go_wp2_with fail
      go_ret
      exact ⟨aO D.out,aA (aA (aA u.out J.out) K.out) z.out⟩
     | true =>
      have HR:=Hd hr
      by_cases G:m=1
      ·have d1:((m:Int)==1)=true:=by simp;omega
       have aL:Hid (jv s.kind s.init m) := .inl ⟨h0,aU.1 hr,G⟩
       have br:m<=4:=by omega
       clear hr h0 G
       go_wp2_with fail
       refine (aj s.init 0 1 _).mono ?_
       rw [HR.out]
       rintro _ w' ⟨rfl,rfl⟩
       go_wp2_with fail
       refine (mR S m p s.ins _ _ (aq.out.below z.out).ints (by omega) aG.out).mono ?_
       by_cases q:jr s.ins (1+l.inputs+(sn:Int)+(ln:Int))
       ·rw [ae q]
        have am:=Hd (Q.out ⟨aL.out,q⟩)
        clear q Q g
        rintro _ w4 ⟨rfl,rfl⟩
        clear y0 y1 y2 ly
        go_wp2_with fail
        go_roundw
        ·exact ⟨k+1,by omega,by go_num,aA K.out z.out,am.out⟩
        simp [intOf];omega
       rw [bJ q]
       have D:=Hd (g.out fun h=>q h.2)
       clear q Q g
       rintro _ w4 ⟨rfl,rfl⟩
       clear y0 y1 y2 ly
       go_wp2_with fail
       go_ret
       exact ⟨aO D.out,aA (aA (aA u.out J.out) K.out) z.out⟩
      have d1:((m:Int)==1)=false:=by simp;omega
      have D:Hid (¬bA l):=g.out fun h=>by
       rcases h.1 with h|h
       ·exact G h.2.2
       omega
      clear hr h0 G
      go_wp2_with fail
      refine (aj s.init 0 1 _).mono ?_
      rw [HR.out]
      rintro _ w' ⟨rfl,rfl⟩
      clear Q g
      go_wp2_with fail
      go_ret
      exact ⟨aO D.out,aA (aA (aA u.out J.out) K.out) z.out⟩
    have q0:(s.kind==0)=false:=by simp [h0]
    by_cases h1:s.kind=1
    ·have q1:(s.kind==1)=true:=by simp [h1]
     cases hr:inR s.init 0 31 with
     | false =>
      have D:Hid (¬bA l):=g.out fun h=>by
       rcases h.1 with h|h
       ·omega
       rw [aU.2 h.2.1] at hr;cases hr
      have HR:=Hd hr
      clear hr h0 h1
      go_wp2_with fail
      refine (aj s.init 0 31 _).mono ?_
      rw [HR.out]
      rintro _ w' ⟨rfl,rfl⟩
      clear Q g
      go_wp2_with fail
      go_ret
      exact ⟨aO D.out,aA (aA (aA u.out J.out) K.out) z.out⟩
     | true =>
      have HR:=Hd hr
      by_cases G:m=4
      ·have d1:((m:Int)==4)=true:=by simp;omega
       have aL:Hid (jv s.kind s.init m) := .inr ⟨h1,aU.1 hr,G⟩
       have br:m<=4:=by omega
       clear hr h0 h1 G
       go_wp2_with fail
       refine (aj s.init 0 31 _).mono ?_
       rw [HR.out]
       rintro _ w' ⟨rfl,rfl⟩
       go_wp2_with fail
       refine (mR S m p s.ins _ _ (aq.out.below z.out).ints (by omega) aG.out).mono ?_
       by_cases q:jr s.ins (1+l.inputs+(sn:Int)+(ln:Int))
       ·rw [ae q]
        have am:=Hd (Q.out ⟨aL.out,q⟩)
        clear q Q g
        rintro _ w4 ⟨rfl,rfl⟩
        clear y0 y1 y2 ly
        go_wp2_with fail
        go_roundw
        ·exact ⟨k+1,by omega,by go_num,aA K.out z.out,am.out⟩
        simp [intOf];omega
       rw [bJ q]
       have D:=Hd (g.out fun h=>q h.2)
       clear q Q g
       rintro _ w4 ⟨rfl,rfl⟩
       clear y0 y1 y2 ly
       go_wp2_with fail
       go_ret
       exact ⟨aO D.out,aA (aA (aA u.out J.out) K.out) z.out⟩
      have d1:((m:Int)==4)=false:=by simp;omega
      have D:Hid (¬bA l):=g.out fun h=>by
       rcases h.1 with h|h
       ·omega
       exact G h.2.2
      clear hr h0 h1 G
      go_wp2_with fail
      refine (aj s.init 0 31 _).mono ?_
      rw [HR.out]
      rintro _ w' ⟨rfl,rfl⟩
      clear Q g
      go_wp2_with fail
      go_ret
      exact ⟨aO D.out,aA (aA (aA u.out J.out) K.out) z.out⟩
    have q1:(s.kind==1)=false:=by simp [h1]
    have D:Hid (¬bA l):=g.out fun h=>by
     rcases h.1 with h|h
     ·exact h0 h.1
     exact h1 h.1
    clear h0 h1 Q g
    go_wp2_with fail
    go_ret
    exact ⟨aO D.out,aA (aA (aA u.out J.out) K.out) z.out⟩
   have bv:=dF (by omega:sn<=k)
   have aQ:k=sn:=by omega
   have bt:Hid (∀j,j<sn→jv (l.seqs[j]?.getD Sq.zero).kind (l.seqs[j]?.getD Sq.zero).init (l.seqs[j]?.getD Sq.zero).ins.length/\jr (l.seqs[j]?.getD Sq.zero).ins (1+l.inputs+(sn:Int)+(ln:Int))):=fun j hj=>B.out j (by omega)
   have aJ:=Hd (aC K.out aE.out)
   clear B aQ
   obtain ⟨-,x1,lx⟩:=fZ aJ.out
   obtain ⟨wo,rfl⟩:∃y,y=wr:=⟨wr,rfl⟩
   go_wp2_with fail
   clear x1 lx
   go_loopw [6] (fun i wr=>∃k:Nat,k<=ln/\i = .int .i64 (k:Int)/\Below wo.heap.size wo wr/\∀j,j<k→iP (l.luts[j]?.getD Lt.zero).ins.length (l.luts[j]?.getD Lt.zero).mask/\jr (l.luts[j]?.getD Lt.zero).ins (1+l.inputs+(sn:Int)+(j:Int))) (fun i _=>ln - (intOf i).toNat)
   ·exact ⟨0,by omega,rfl,Below.refl _ _,fun j hj=>by omega⟩
   obtain ⟨k,hk,rfl,hb,H⟩:=hrel
   obtain ⟨V,B⟩:=hd2 hb H
   clear hb H
   have bl:=Hd (aC V.out aJ.out)
   obtain ⟨-,-,z2,lz⟩:=jU bl.out
   by_cases ax:k<ln
   ·have a2:=dT (by omega:k<ln)
    have aF:=Hd (HN.out.below (aA (aA (aA u.out J.out) K.out) V.out))
    have a1:=Hd (aC V.out aJ.out)
    obtain ⟨b,o,S,m,p,rfl,bu,c0,c1,r2⟩:=aF.out.lt.lut' (k:=k) (by rw [Z.out];exact ax)
    have hm:(l.luts[k]?.getD Lt.zero).ins.length=m:=r2.ints.1
    have aq:=Hd r2
    have Q:Hid (iP m (l.luts[k]?.getD Lt.zero).mask/\jr (l.luts[k]?.getD Lt.zero).ins (1+l.inputs+(sn:Int)+(k:Int))→∀j,j<k+1→iP (l.luts[j]?.getD Lt.zero).ins.length (l.luts[j]?.getD Lt.zero).mask/\jr (l.luts[j]?.getD Lt.zero).ins (1+l.inputs+(sn:Int)+(j:Int))):=fun h=>bU B.out (by rw [hm];exact h)
    have g:Hid (¬(iP m (l.luts[k]?.getD Lt.zero).mask/\jr (l.luts[k]?.getD Lt.zero).ins (1+l.inputs+(sn:Int)+(k:Int)))→¬bA l):=fun h hf=>h (by
     have h1:=hf.luts k (by rw [Z.out];exact ax)
     rw [hm] at h1
     exact ⟨⟨h1.1,h1.2.1⟩,by rw [←a8.out];exact h1.2.2⟩)
    generalize l.luts[k]?.getD Lt.zero=s at *
    obtain ⟨i0,i1⟩:=ib (by omega:k<ln)
    clear r2 hm
    have ah:=Hd (aD (Below.refl wr.heap.size wr) (.cells #[.slice S m p,.int .i64 s.mask] 96))
    obtain ⟨y0,y1,ly⟩:=fZ (aI wr (.cells #[.slice S m p,.int .i64 s.mask] 96))
    have a4:=aC ah.out a1.out
    obtain ⟨x0,x1,x2,x3,lx⟩:=bX a4
    have bH:wr.heap.size≠w.heap.size:=by have:=aB a1.out;omega
    go_upto_region 14 with fail
    generalize wr.alloc (.cells #[.slice S m p,.int .i64 s.mask] 96)=W9 at *
    have a6:=Hd (fun (x:Sub W9)=>nk l.inputs SA (some ⟨b,o,none⟩) OA sn sc ln lc on oc x.v ad.out.1 (by have:=ad.out;omega) (by omega))
    have bD:=ad.out.1
    have bE:=ad.out.2
    clear c0 c1 a4 z2 lz
    have Y:=fun (x:Sub W9)=>yH m s.mask x.v
    by_cases R:iP m s.mask
    ·rw [ae R] at Y
     have bP:m<=4:=R.1
     have ap:=Hd Y
     have af:=fun (x:Sub W9)=>mR S m p s.ins (1+l.inputs+(sn:Int)+(k:Int)) x.v (aq.out.below (aA ah.out x.h)).ints (by omega) (by omega)
     have bo:=Hd R
     clear R Y
     by_cases q:jr s.ins (1+l.inputs+(sn:Int)+(k:Int))
     ·rw [ae q] at af
      have aS:=Hd af
      have am:=Hd (Q.out ⟨bo.out,q⟩)
      clear af q Q g
      have I:=aX W9
      have al:=aP W9
      refine wpB W9 ?_
      repeat (go_big_quiet_step ((first
       | (go_at_call 155;with_reducible exact aN (ap.out _))
       | (go_at_call 156;with_reducible exact aN (a6.out _))
       | (go_at_call 154;with_reducible exact aR (aS.out _)))))
      refine wpQuiet_nil ?_
      rintro _ ⟨⟨w5,hD⟩,rfl⟩
      clear I al
      have HD:=Hd (aA ah.out hD)
      clear hD x0 x1 x2 x3 lx y0 y1 ly
      go_wp2_with fail
      go_roundw
      ·exact ⟨k+1,by omega,by go_num,aA V.out HD.out,am.out⟩
      simp [intOf];omega
     rw [bJ q] at af
     have aS:=Hd af
     have D:=Hd (g.out fun h=>q h.2)
     clear af q Q g
     have I:=aX W9
     have al:=aP W9
     refine wpB W9 ?_
     repeat (go_big_quiet_step ((first
      | (go_at_call 155;with_reducible exact aN (ap.out _))
      | (go_at_call 156;with_reducible exact aN (a6.out _))
      | (go_at_call 154;with_reducible exact aR (aS.out _)))))
     refine wpQuiet_nil ?_
     rintro _ ⟨⟨w5,hD⟩,rfl⟩
     clear I al
     have HD:=Hd (aA ah.out hD)
     clear hD x0 x1 x2 x3 lx y0 y1 ly
     go_wp2_with fail
     go_ret
     exact ⟨aO D.out,aA (aA (aA (aA u.out J.out) K.out) V.out) HD.out⟩
    rw [bJ R] at Y
    have ap:=Hd Y
    have D:=Hd (g.out fun h=>R h.1)
    clear Y R Q g
    have I:=aX W9
    have al:=aP W9
    refine wpB W9 ?_
    repeat (go_big_quiet_step ((first
     | (go_at_call 155;with_reducible exact aN (ap.out _)))))
    refine wpQuiet_nil ?_
    rintro _ ⟨⟨w5,hD⟩,rfl⟩
    clear I al
    have HD:=Hd (aA ah.out hD)
    clear hD x0 x1 x2 x3 lx y0 y1 ly
    go_wp2_with fail
    go_ret
    exact ⟨aO D.out,aA (aA (aA (aA u.out J.out) K.out) V.out) HD.out⟩
   have a2:=dF (by omega:ln<=k)
   have aQ:k=ln:=by omega
   have bj:Hid (∀j,j<ln→iP (l.luts[j]?.getD Lt.zero).ins.length (l.luts[j]?.getD Lt.zero).mask/\jr (l.luts[j]?.getD Lt.zero).ins (1+l.inputs+(sn:Int)+(j:Int))):=fun j hj=>B.out j (by omega)
   have bn:=Hd (aA (aA (aA u.out J.out) K.out) V.out)
   have bc:Hid (bA l):=⟨ad.out,by have:=U.out;omega,by have:=Z.out;omega,by have:=aZ.out;omega,by have:=bs.out;rw [←HC.out] at this;exact this,fun i hi=>by have:=bt.out i (by rw [←U.out];exact hi);rw [←HC.out] at this;exact this,fun i hi=>by have:=bj.out i (by rw [←Z.out];exact hi);rw [←a8.out] at this;exact ⟨this.1.1,this.1.2,this.2⟩⟩
   clear B aQ
   go_wp2_with fail
   go_ret
   exact ⟨dU bc.out,bn.out⟩
  rw [bJ W]
  have D:Hid (¬bA l):=fun hf=>W (by rw [←HC.out];exact hf.outs)
  clear W
  rintro _ w2 ⟨rfl,rfl⟩
  go_wp2_with fail
  go_ret
  exact ⟨aO D.out,aA u.out J.out⟩
 have D:Hid (¬bA l):=fun hf=>hz ⟨hf.inp,by have:=hf.nseq;have:=U.out;omega,by have:=hf.nlut;have:=Z.out;omega,by have:=hf.nout;have:=aZ.out;omega⟩
 go_enter Tryz.func81,Tryz.ntmps81
 go_wp2_with fail
 refine (yG l SA LA OA sn sc ln lc on oc _ hz).mono ?_
 rintro _ w1 ⟨rfl,b1⟩
 have J:=Hd b1
 clear b1 hz
 go_wp2_with fail
 go_ret
 exact ⟨aO D.out,aA u.out J.out⟩
theorem zl (l:ai) (SA LA OA:Option Addr) (sn sc ln lc on oc:Nat) (w:World) (h:fo w l SA LA OA sn sc ln lc on oc) (hf:bA l) :
  Calls Tryz.prog 240 #[jI l SA LA OA sn sc ln lc on oc] w fun e w'=>∃A,e = .returned (.slice A l.count l.count)/\Own w.heap.size w' A l.count l.count (aH l.count (kY l))/\Below w.heap.size w w':=by
 have bj:=Hd (aD (Below.refl w.heap.size w) (.cells (ak l SA LA OA sn sc ln lc on oc) 41))
 have bh:=Hd (aI w (.cells (ak l SA LA OA sn sc ln lc on oc) 41))
 obtain ⟨aU,aT,a0⟩:=h.lens
 have h1:=hf.nseq
 have h2:=hf.nlut
 have h3:=hf.nout
 have bn:=Hd hf.inp
 have a8:=hf.inp
 obtain ⟨HN,HF,aF,aL,bC⟩:=hd5 h hf aT aU a0
 have hC:1+l.inputs+(sn:Int)+(ln:Int)=(l.count:Int):=by unfold ai.count ai.first;omega
 have aY:Hid ((l.first:Int)+(ln:Int)=(l.count:Int)):=by show _=_;unfold ai.count;omega
 obtain ⟨C,ax⟩:∃C,l.count=C:=⟨_,rfl⟩
 have aE:=Hd ax
 rw [ax] at hC
 have bG:C<=433:=by omega
 have D:sn<=12:=by omega
 have bo:ln<=400:=by omega
 have bf:on<=16:=by omega
 obtain ⟨i0,hi,aZ,aV,aS⟩:=info_parts kC
 have a1:=fun W=>dP (P:=Tryz.prog) 26 3 i0 _ Tryz.underlying26 hi aZ .i64 .i64 C C (Nat.le_refl _) (by rw [aS];omega) (by omega) W
 rw [aV,Nat.mul_one,show (Value.int .i64 0).cells=#[Value.int .i64 0] from rfl,sw] at a1
 have HC:=Hd hC
 rw [ax]
 clear h hf aU aT a0 h1 h2 h3 ax hi aZ aV aS hC
 go_enter Tryz.func240,Tryz.ntmps240
 go_wp2_with fail
 refine (qx l SA LA OA sn sc ln lc on oc _ bn.out D bo bf).mono ?_
 rw [HC.out]
 rintro _ u ⟨rfl,b1⟩
 have V:=Hd (aC b1 bh.out)
 have H:=Hd (aA bj.out b1)
 have aO:=(aJ.refl u).consOwn (aD (Below.refl _ _) (.cells (arr (List.replicate C 0)) 3)) (Own.arr (n:=C) (aI u _) (Nat.le_refl _) (by unfold maxLen;omega) (by simp))
 have bk:=Hd (show aJ u (u.alloc (.cells (arr (List.replicate C 0)) 3)) [.cel (aG (aH C ((l.luts.take 0).flatMap Lt.ins))) (.slice (some ⟨u.heap.size,0,none⟩) C C)] from by
  rw [List.take_zero,List.flatMap_nil,pW]
  exact aO)
 have bg:=Hd (aC aO.bel V.out)
 clear b1 aO a8
 have hx:=bg.out
 obtain ⟨x0,x1,x2,x3,lx⟩:=bX hx
 have bD:w.heap.size≠u.heap.size:=by have:=aB V.out;omega
 clear hx
 go_wp2_with fail
 clear x0 x1 x2 x3 lx a1
 go_loopw [4] (fun i wr=>∃k:Nat,k<=ln/\i = .int .i64 (k:Int)/\aJ u wr [.cel (aG (aH C ((l.luts.take k).flatMap Lt.ins))) (.slice (some ⟨u.heap.size,0,none⟩) C C)]) (fun i _=>ln - (intOf i).toNat)
 ·exact ⟨0,by omega,rfl,bk.out⟩
 obtain ⟨k,hk,rfl,hs⟩:=hrel
 have B:=Hd hs
 obtain ⟨-,-,x2,lx⟩:=jU (aC hs.bel V.out)
 clear hs
 by_cases ag:k<ln
 ·have aM:=dT (by omega:k<ln)
  obtain ⟨b,o,S,m,p,hA,au,c0,c1,r2⟩:=HN.out.lt.lut' (k:=k) (by rw [aF.out];exact ag)
  obtain ⟨CI,aN⟩:=hd2 c0 r2
  have Y:k<l.luts.length:=by rw [aF.out];exact ag
  have aj:=Hd (show ((l.luts.take k).flatMap Lt.ins)++(l.luts[k]?.getD Lt.zero).ins=(l.luts.take (k+1)).flatMap Lt.ins from by rw [wU Y])
  have ao:Hid (∀n∈(l.luts[k]?.getD Lt.zero).ins,0<=n/\n<(C:Int)):=fun n hn=>by
   have h:=(HF.out.luts k Y).2.2 n hn
   have h2:=aE.out
   have h3:=aY.out
   omega
  have af:Hid (((l.luts.take k).flatMap Lt.ins).length+(l.luts[k]?.getD Lt.zero).ins.length<=3000):=by
   show _<=_
   have h1:=congrArg List.length aj.out
   rw [List.length_append] at h1
   have h2:=jM HF.out (k+1)
   have h3:=mX HF.out (k+1)
   have h4:=jM HF.out l.luts.length
   rw [List.take_length] at h4
   (try simp only [List.length_append] at h1 ⊢)
   omega
  subst hA
  clear r2 Y c0 c1
  generalize l.luts[k]?.getD Lt.zero=x at *
  generalize (l.luts.take k).flatMap Lt.ins=Z at *
  obtain ⟨i0,i1⟩:=ib (by omega:k<ln)
  obtain ⟨wo,rfl⟩:∃y,y=wr:=⟨wr,rfl⟩
  go_wp2_with fail
  clear x2 lx
  go_loopw [5] (fun i wr=>∃j:Nat,j<=m/\i = .int .i64 (j:Int)/\aJ u wr [.cel (aG (aH C (lC (Z) (x.ins) j))) (.slice (some ⟨u.heap.size,0,none⟩) C C)]) (fun i _=>m - (intOf i).toNat)
  ·exact ⟨0,by omega,rfl,by rw [mY];exact B.out⟩
  obtain ⟨j,hj,rfl,hs⟩:=hrel
  have B:=Hd hs
  have g:=Hd (aN.out.ints)
  have hx:=aC hs.bel V.out
  obtain ⟨-,-,x2,lx⟩:=jU hx
  have cI:=((aA H.out hs.bel).cell (p:=⟨b,o+k * 2,none⟩) au).trans CI.out
  have bl:=aK (aA H.out hs.bel) au
  clear hx
  by_cases G:j<m
  ·have ae:=dT (by omega:j<m)
   obtain ⟨bt,ot,hA,I,K⟩:=g.out.2 (by omega)
   have HA:=Hd hA
   have ar:=((aA H.out hs.bel).cell (p:=⟨bt,ot+j,none⟩) I).trans (K j G)
   have a5:=aK (aA H.out hs.bel) I
   have z:j<(x.ins).length:=by rw [g.out.1];exact G
   have U:=ao.out _ (List.getElem_mem z)
   have D:=mf (bs:=Z) z
   rw [List.getElem?_eq_getElem z,Option.getD_some] at ar D
   have Q:=oW (Z) (x.ins) j
   have J:=af.out
   have ah:=g.out.1
   generalize (x.ins)[j]=x at *
   obtain ⟨X,rfl⟩:=Int.eq_ofNat_of_zero_le U.1
   have aq:X<C:=by omega
   obtain ⟨cX,fX,lX,hN⟩:=oZ hs aq
   rw [D] at hN
   have am:=fC (lC (Z) (x.ins) j) (X:Int)
   have al:=Hd hN
   clear hN D K hs
   generalize cnt (lC (Z) (x.ins) j) (X:Int)=q at *
   have hq:q<=10000:=by omega
   have aR:j<=10000:=by omega
   clear am Q J ah z U
   obtain ⟨i0,i1⟩:=ib (by omega:j<m)
   obtain ⟨i2,i3⟩:=ib (by omega:X<C)
   subst hA
   go_wp2_with fail
   go_roundw
   ·exact ⟨j+1,by omega,by go_num,al.out⟩
   simp [intOf];omega
  have R:j=m:=by omega
  have ae:=dF (by omega:m<=j)
  have HD:=Hd (show aJ u wr [.cel (aG (aH C ((Z)++(x.ins)))) (.slice (some ⟨u.heap.size,0,none⟩) C C)] from by rw [←mZ g.out.1,←R];exact hs)
  clear hs g B R
  have az:=Hd (show aJ u wr [.cel (aG (aH C ((l.luts.take (k+1)).flatMap Lt.ins))) (.slice (some ⟨u.heap.size,0,none⟩) C C)] from by rw [←aj.out];exact HD.out)
  go_wp2_with fail
  go_roundw
  ·exact ⟨k+1,by omega,by go_num,az.out⟩
  simp [intOf];omega
 have ap:k=ln:=by omega
 have aM:=dF (by omega:ln<=k)
 have bb:=Hd (show aJ u wr [.cel (aG (aH C (l.luts.flatMap Lt.ins++(l.seqs.take 0).flatMap Sq.ins))) (.slice (some ⟨u.heap.size,0,none⟩) C C)] from by
  have h:=B.out
  rw [ap,←aF.out,List.take_length] at h
  simpa using h)
 clear ap B
 obtain ⟨wo,rfl⟩:∃y,y=wr:=⟨wr,rfl⟩
 go_wp2_with fail
 clear x2 lx
 go_loopw [6] (fun i wr=>∃k:Nat,k<=sn/\i = .int .i64 (k:Int)/\aJ u wr [.cel (aG (aH C (l.luts.flatMap Lt.ins++(l.seqs.take k).flatMap Sq.ins))) (.slice (some ⟨u.heap.size,0,none⟩) C C)]) (fun i _=>sn - (intOf i).toNat)
 ·exact ⟨0,by omega,rfl,bb.out⟩
 obtain ⟨k,hk,rfl,hs⟩:=hrel
 have B:=Hd hs
 obtain ⟨-,x1,lx⟩:=fZ (aC hs.bel V.out)
 clear hs
 by_cases ag:k<sn
 ·have aM:=dT (by omega:k<sn)
  obtain ⟨b,o,S,m,p,hA,au,c0,c1,c2,r2⟩:=HN.out.sq.sq' (k:=k) (by rw [aL.out];exact ag)
  obtain ⟨CI,aN⟩:=hd2 c2 r2
  have Y:k<l.seqs.length:=by rw [aL.out];exact ag
  have aj:=Hd (show (l.luts.flatMap Lt.ins++(l.seqs.take k).flatMap Sq.ins)++(l.seqs[k]?.getD Sq.zero).ins=l.luts.flatMap Lt.ins++(l.seqs.take (k+1)).flatMap Sq.ins from by rw [List.append_assoc,uj Y])
  have ao:Hid (∀n∈(l.seqs[k]?.getD Sq.zero).ins,0<=n/\n<(C:Int)):=fun n hn=>by
   have h:=(HF.out.seqs k Y).2 n hn
   have h2:=aE.out
   have h3:=aY.out
   omega
  have af:Hid ((l.luts.flatMap Lt.ins++(l.seqs.take k).flatMap Sq.ins).length+(l.seqs[k]?.getD Sq.zero).ins.length<=3000):=by
   show _<=_
   have h1:=congrArg List.length aj.out
   rw [List.length_append] at h1
   have h2:=jM HF.out (k+1)
   have h3:=mX HF.out (k+1)
   have h4:=jM HF.out l.luts.length
   rw [List.take_length] at h4
   (try simp only [List.length_append] at h1 ⊢)
   omega
  subst hA
  clear r2 Y c0 c1 c2
  generalize l.seqs[k]?.getD Sq.zero=x at *
  generalize l.luts.flatMap Lt.ins++(l.seqs.take k).flatMap Sq.ins=Z at *
  obtain ⟨i0,i1⟩:=ib (by omega:k<sn)
  obtain ⟨wo,rfl⟩:∃y,y=wr:=⟨wr,rfl⟩
  go_wp2_with fail
  clear x1 lx
  go_loopw [7] (fun i wr=>∃j:Nat,j<=m/\i = .int .i64 (j:Int)/\aJ u wr [.cel (aG (aH C (lC (Z) (x.ins) j))) (.slice (some ⟨u.heap.size,0,none⟩) C C)]) (fun i _=>m - (intOf i).toNat)
  ·exact ⟨0,by omega,rfl,by rw [mY];exact B.out⟩
  obtain ⟨j,hj,rfl,hs⟩:=hrel
  have B:=Hd hs
  have g:=Hd (aN.out.ints)
  have hx:=aC hs.bel V.out
  obtain ⟨-,x1,lx⟩:=fZ hx
  have cI:=((aA H.out hs.bel).cell (p:=⟨b,o+k * 3+2,none⟩) au).trans CI.out
  have bl:=aK (aA H.out hs.bel) au
  clear hx
  by_cases G:j<m
  ·have ae:=dT (by omega:j<m)
   obtain ⟨bt,ot,hA,I,K⟩:=g.out.2 (by omega)
   have HA:=Hd hA
   have ar:=((aA H.out hs.bel).cell (p:=⟨bt,ot+j,none⟩) I).trans (K j G)
   have a5:=aK (aA H.out hs.bel) I
   have z:j<(x.ins).length:=by rw [g.out.1];exact G
   have U:=ao.out _ (List.getElem_mem z)
   have D:=mf (bs:=Z) z
   rw [List.getElem?_eq_getElem z,Option.getD_some] at ar D
   have Q:=oW (Z) (x.ins) j
   have J:=af.out
   have ah:=g.out.1
   generalize (x.ins)[j]=x at *
   obtain ⟨X,rfl⟩:=Int.eq_ofNat_of_zero_le U.1
   have aq:X<C:=by omega
   obtain ⟨cX,fX,lX,hN⟩:=oZ hs aq
   rw [D] at hN
   have am:=fC (lC (Z) (x.ins) j) (X:Int)
   have al:=Hd hN
   clear hN D K hs
   generalize cnt (lC (Z) (x.ins) j) (X:Int)=q at *
   have hq:q<=10000:=by omega
   have aR:j<=10000:=by omega
   clear am Q J ah z U
   obtain ⟨i0,i1⟩:=ib (by omega:j<m)
   obtain ⟨i2,i3⟩:=ib (by omega:X<C)
   subst hA
   go_wp2_with fail
   go_roundw
   ·exact ⟨j+1,by omega,by go_num,al.out⟩
   simp [intOf];omega
  have R:j=m:=by omega
  have ae:=dF (by omega:m<=j)
  have HD:=Hd (show aJ u wr [.cel (aG (aH C ((Z)++(x.ins)))) (.slice (some ⟨u.heap.size,0,none⟩) C C)] from by rw [←mZ g.out.1,←R];exact hs)
  clear hs g B R
  have az:=Hd (show aJ u wr [.cel (aG (aH C (l.luts.flatMap Lt.ins++(l.seqs.take (k+1)).flatMap Sq.ins))) (.slice (some ⟨u.heap.size,0,none⟩) C C)] from by rw [←aj.out];exact HD.out)
  go_wp2_with fail
  go_roundw
  ·exact ⟨k+1,by omega,by go_num,az.out⟩
  simp [intOf];omega
 have ap:k=sn:=by omega
 have aM:=dF (by omega:sn<=k)
 have bd:=Hd (show aJ u wr [.cel (aG (aH C (l.luts.flatMap Lt.ins++l.seqs.flatMap Sq.ins))) (.slice (some ⟨u.heap.size,0,none⟩) C C)] from by
  have h:=B.out
  rwa [ap,←aL.out,List.take_length] at h)
 have ao:Hid (∀n∈l.outs,0<=n/\n<(C:Int)):=fun n hn=>by
  have h:=HF.out.outs n hn
  have h2:=aE.out
  omega
 have af:Hid ((l.luts.flatMap Lt.ins++l.seqs.flatMap Sq.ins).length+l.outs.length<=3000):=by
  show _<=_
  have h3:=mX HF.out l.seqs.length
  have h4:=jM HF.out l.luts.length
  rw [List.take_length] at h3 h4
  have h5:=HF.out.nout
  rw [List.length_append]
  omega
 clear ap B
 obtain ⟨wo,rfl⟩:∃y,y=wr:=⟨wr,rfl⟩
 go_wp2_with fail
 clear x1 lx
 go_loopw [8] (fun i wr=>∃j:Nat,j<=on/\i = .int .i64 (j:Int)/\aJ u wr [.cel (aG (aH C (lC (l.luts.flatMap Lt.ins++l.seqs.flatMap Sq.ins) (l.outs) j))) (.slice (some ⟨u.heap.size,0,none⟩) C C)]) (fun i _=>on - (intOf i).toNat)
 ·exact ⟨0,by omega,rfl,by rw [mY];exact bd.out⟩
 obtain ⟨j,hj,rfl,hs⟩:=hrel
 have B:=Hd hs
 have g:=Hd (HN.out.ou.ints)
 obtain ⟨-,-,-,x3,lx⟩:=bX (aC hs.bel V.out)
 by_cases G:j<on
 ·have ae:=dT (by omega:j<on)
  obtain ⟨bt,ot,hA,I,K⟩:=g.out.2 (by omega)
  have HA:=Hd hA
  have ar:=((aA H.out hs.bel).cell (p:=⟨bt,ot+j,none⟩) I).trans (K j G)
  have a5:=aK (aA H.out hs.bel) I
  have z:j<(l.outs).length:=by rw [g.out.1];exact G
  have U:=ao.out _ (List.getElem_mem z)
  have D:=mf (bs:=l.luts.flatMap Lt.ins++l.seqs.flatMap Sq.ins) z
  rw [List.getElem?_eq_getElem z,Option.getD_some] at ar D
  have Q:=oW (l.luts.flatMap Lt.ins++l.seqs.flatMap Sq.ins) (l.outs) j
  have J:=af.out
  have ah:=g.out.1
  generalize (l.outs)[j]=x at *
  obtain ⟨X,rfl⟩:=Int.eq_ofNat_of_zero_le U.1
  have aq:X<C:=by omega
  obtain ⟨cX,fX,lX,hN⟩:=oZ hs aq
  rw [D] at hN
  have am:=fC (lC (l.luts.flatMap Lt.ins++l.seqs.flatMap Sq.ins) (l.outs) j) (X:Int)
  have al:=Hd hN
  clear hN D K hs
  generalize cnt (lC (l.luts.flatMap Lt.ins++l.seqs.flatMap Sq.ins) (l.outs) j) (X:Int)=q at *
  have hq:q<=10000:=by omega
  have aR:j<=10000:=by omega
  clear am Q J ah z U
  obtain ⟨i0,i1⟩:=ib (by omega:j<on)
  obtain ⟨i2,i3⟩:=ib (by omega:X<C)
  subst hA
  go_wp2_with fail
  go_roundw
  ·exact ⟨j+1,by omega,by go_num,al.out⟩
  simp [intOf];omega
 have R:j=on:=by omega
 have ae:=dF (by omega:on<=j)
 have HD:=Hd (show aJ u wr [.cel (aG (aH C ((l.luts.flatMap Lt.ins++l.seqs.flatMap Sq.ins)++(l.outs)))) (.slice (some ⟨u.heap.size,0,none⟩) C C)] from by rw [←mZ g.out.1,←R];exact hs)
 clear hs g B R
 go_wp2_with fail
 go_ret
 exact ⟨_,rfl,(HD.out.owned 0 rfl).more (by have:=H.out.size;omega),aA H.out HD.out.bel⟩
theorem rT (l:ai) (SA LA OA:Option Addr) (sn sc ln lc on oc:Nat) (a b:Int) (w:World) (h:fo w l SA LA OA sn sc ln lc on oc) (hf:bA l) (he:dQ l ⟨a,b⟩) :
  Calls Tryz.prog 204 #[jI l SA LA OA sn sc ln lc on oc,.agg #[.int .i64 a,.int .i64 b]] w fun e w'=>e = .returned (.int .i64 (cZ l ⟨a,b⟩))/\Below w.heap.size w w':=by
 have g:cZ l ⟨a,b⟩=if 0<=b then 1+l.inputs+b else (l.first:Int)+a:=rfl
 obtain ⟨e1,e2,e3,_⟩:=nC.1 he
 have z:=h.lens.1
 have u:=h.lens.2.1
 rw [z] at e2
 rw [u] at e1
 clear z u
 have K:=Hd (aD (aD (Below.refl w.heap.size w) (.cells (ak l SA LA OA sn sc ln lc on oc) 41)) (.cells #[.int .i64 a,.int .i64 b] 94))
 have hx:=bS (.cells #[.int .i64 a,.int .i64 b] 94) (aI w (.cells (ak l SA LA OA sn sc ln lc on oc) 41))
 have Y:=aI (w.alloc (.cells (ak l SA LA OA sn sc ln lc on oc) 41)) (.cells #[.int .i64 a,.int .i64 b] 94)
 simp only [World.size_alloc] at Y
 obtain ⟨q,j⟩:=hd2 hx Y
 clear hx Y
 obtain ⟨D,B,H⟩:=h.lens
 have Z:=hf.nseq
 have V:=hf.nlut
 have ad:=hf.nout
 have U:=hf.inp
 rw [D] at Z
 rw [B] at V
 rw [H] at ad
 obtain ⟨HN,HF,aq,ay,au⟩:=hd5 h hf D B H
 have Q:Hid ((l.first:Int)=1+l.inputs+(sn:Int)):=by show _=_;unfold ai.first;omega
 have ao:Hid ((l.count:Int)=1+l.inputs+(sn:Int)+(ln:Int)):=by show _=_;unfold ai.count ai.first;omega
 clear h hf D B H
 by_cases h0:0<=b
 ·have d0:decide (b≥0)=true:=decide_eq_true h0
  rw [if_pos h0] at g
  have G:=Hd g
  clear g e1 e3
  go_enter Tryz.func204,Tryz.ntmps204
  go_upto_region 1 with fail
  generalize (w.alloc (.cells (ak l SA LA OA sn sc ln lc on oc) 41)).alloc (.cells #[.int .i64 a,.int .i64 b] 94)=I at *
  have x0:=aF (k:=0) q.out rfl
  have y1:=aF (k:=1) j.out rfl
  have lx:=aB q.out
  have ly:=aB j.out
  go_wp2_with fail
  go_ret
  exact ⟨aL G.out.symm,K.out⟩
 have d0:decide (b≥0)=false:=decide_eq_false h0
 rw [if_neg h0,Q.out] at g
 have G:=Hd g
 have ha:0<=a:=by omega
 clear g e2 e3 h0
 go_enter Tryz.func204,Tryz.ntmps204
 go_upto_region 1 with fail
 generalize (w.alloc (.cells (ak l SA LA OA sn sc ln lc on oc) 41)).alloc (.cells #[.int .i64 a,.int .i64 b] 94)=I at *
 obtain ⟨x0,x1,x2,x3⟩:=cs4 q.out
 obtain ⟨y0,y1⟩:=cs2 j.out
 have lx:=aB q.out
 have ly:=aB j.out
 go_upto_region 3 with fail
 have W:=Hd (fun (x:Sub I)=>nk l.inputs SA LA OA sn sc ln lc on oc x.v U.1 (by omega) (by omega))
 have J:=aX I
 have R:=aP I
 refine wpB I ?_
 repeat (go_big_quiet_step ((first
  | (go_at_call 156;with_reducible exact aN (W.out _)))))
 refine wpQuiet_nil ?_
 rintro _ ⟨⟨w5,hD⟩,rfl⟩
 clear J R
 have HD:=Hd (aA K.out hD)
 clear x0 x1 x2 x3 y0 y1 lx ly hD
 go_wp2_with fail
 go_ret
 exact ⟨aL G.out.symm,HD.out⟩
theorem DL (l:ai) (SA LA OA:Option Addr) (sn sc ln lc on oc:Nat) (a b:Int) (w:World) (h:fo w l SA LA OA sn sc ln lc on oc) (hf:bA l) :
  Calls Tryz.prog 254 #[jI l SA LA OA sn sc ln lc on oc,.agg #[.int .i64 a,.int .i64 b]] w fun e w'=>e = .returned (.bool (tb (dQ l ⟨a,b⟩)))/\Below w.heap.size w w':=by
 have D:=nC (l:=l) (a:=a) (b:=b)
 have aG:=h.lens.1
 have aE:=h.lens.2.1
 rw [aG,aE] at D
 clear aG aE
 have u:=Hd (aD (aD (Below.refl w.heap.size w) (.cells (ak l SA LA OA sn sc ln lc on oc) 41)) (.cells #[.int .i64 a,.int .i64 b] 94))
 have hx:=bS (.cells #[.int .i64 a,.int .i64 b] 94) (aI w (.cells (ak l SA LA OA sn sc ln lc on oc) 41))
 have hy:=aI (w.alloc (.cells (ak l SA LA OA sn sc ln lc on oc) 41)) (.cells #[.int .i64 a,.int .i64 b] 94)
 simp only [World.size_alloc] at hy
 obtain ⟨g,j⟩:=hd2 hx hy
 clear hx hy
 obtain ⟨aL,aJ,aQ⟩:=h.lens
 have bl:=hf.nseq
 have bo:=hf.nlut
 have bg:=hf.nout
 have aH:=hf.inp
 rw [aL] at bl
 rw [aJ] at bo
 rw [aQ] at bg
 obtain ⟨HN,HF,a6,bK,bE⟩:=hd5 h hf aL aJ aQ
 have a5:Hid ((l.first:Int)=1+l.inputs+(sn:Int)):=by show _=_;unfold ai.first;omega
 have aZ:Hid ((l.count:Int)=1+l.inputs+(sn:Int)+(ln:Int)):=by show _=_;unfold ai.count ai.first;omega
 clear h hf aL aJ aQ
 cases ad:inR a (-1) ((ln:Int) - 1) with
 | false =>
  have I:Hid (¬dQ l ⟨a,b⟩):=fun h=>by
   have h2:=(D.1 h).1
   rw [aU.2 ⟨h2.1,by omega⟩] at ad
   cases ad
  have H1:=Hd ad
  clear ad D
  go_enter Tryz.func254,Tryz.ntmps254
  go_upto_region 1 with fail
  generalize (w.alloc (.cells (ak l SA LA OA sn sc ln lc on oc) 41)).alloc (.cells #[.int .i64 a,.int .i64 b] 94)=B at *
  have R:=aF (k:=2) g.out rfl
  have y0:=aF (k:=0) j.out rfl
  have U:=aB g.out
  have W:=aB j.out
  go_wp2_with fail
  refine (aj a (-1) ((ln:Int) - 1) _).mono ?_
  rw [H1.out]
  rintro _ w' ⟨rfl,rfl⟩
  go_wp2_with fail
  go_ret
  exact ⟨aO I.out,u.out⟩
 | true =>
  have ha:=aU.1 ad
  have H1:=Hd ad
  clear ad
  cases ae:inR b (-1) ((sn:Int) - 1) with
  | false =>
   have I:Hid (¬dQ l ⟨a,b⟩):=fun h=>by
    have h2:=(D.1 h).2.1
    rw [aU.2 ⟨h2.1,by omega⟩] at ae
    cases ae
   have H2:=Hd ae
   clear ae D
   go_enter Tryz.func254,Tryz.ntmps254
   go_upto_region 1 with fail
   generalize (w.alloc (.cells (ak l SA LA OA sn sc ln lc on oc) 41)).alloc (.cells #[.int .i64 a,.int .i64 b] 94)=B at *
   obtain ⟨-,Y,R⟩:=cs3 g.out
   obtain ⟨y0,Z⟩:=cs2 j.out
   have U:=aB g.out
   have W:=aB j.out
   go_wp2_with fail
   refine (aj a (-1) ((ln:Int) - 1) _).mono ?_
   rw [H1.out]
   rintro _ w' ⟨rfl,rfl⟩
   go_wp2_with fail
   refine (aj b (-1) ((sn:Int) - 1) _).mono ?_
   rw [H2.out]
   rintro _ w' ⟨rfl,rfl⟩
   go_wp2_with fail
   go_ret
   exact ⟨aO I.out,u.out⟩
  | true =>
   have hb:=aU.1 ae
   have H2:=Hd ae
   clear ae
   by_cases hn:a=-1/\b=-1
   ·have I:Hid (¬dQ l ⟨a,b⟩):=fun h=>(D.1 h).2.2.1 hn
    obtain ⟨rfl,rfl⟩:=hn
    clear D
    go_enter Tryz.func254,Tryz.ntmps254
    go_upto_region 1 with fail
    generalize (w.alloc (.cells (ak l SA LA OA sn sc ln lc on oc) 41)).alloc (.cells #[.int .i64 (-1),.int .i64 (-1)] 94)=B at *
    obtain ⟨-,Y,R⟩:=cs3 g.out
    obtain ⟨y0,Z⟩:=cs2 j.out
    have U:=aB g.out
    have W:=aB j.out
    go_wp2_with fail
    refine (aj (-1) (-1) ((ln:Int) - 1) _).mono ?_
    rw [H1.out]
    rintro _ w' ⟨rfl,rfl⟩
    go_wp2_with fail
    refine (aj (-1) (-1) ((sn:Int) - 1) _).mono ?_
    rw [H2.out]
    rintro _ w' ⟨rfl,rfl⟩
    go_wp2_with fail
    go_ret
    exact ⟨aO I.out,u.out⟩
   have al:True:=trivial
   have aw:decide (a<0)=false∨decide (a<0)=true/\decide (b<0)=false:=by simp;omega
   by_cases aT:0<=b
   ·have d1:decide (b≥0)=true:=decide_eq_true aT
    have db:decide (b<0)=false:=by simp;omega
    obtain ⟨F,rfl⟩:∃F:Nat,b=(F:Int):=⟨b.toNat,by omega⟩
    rw [Int.toNat_natCast] at D
    have hF:F<sn:=by omega
    obtain ⟨bs,os,IA,im,ic,rfl,aR,c0,c1,c2,r2⟩:=HN.out.sq.sq' (k:=F) (by rw [a6.out];exact hF)
    have bH:(l.seqs[F]?.getD Sq.zero).ins.length=im:=r2.ints.1
    have a0:=(HF.out.seqs F (by rw [a6.out];exact hF)).1
    have H:=aK u.out aR
    rw [←u.out.cell (p:=⟨bs,os+F * 3,none⟩) aR] at c0
    rw [←u.out.cell (p:=⟨bs,os+F * 3+2,none⟩) aR] at c2
    have bq:=Hd r2
    clear c1 r2
    generalize l.seqs[F]?.getD Sq.zero=s at *
    by_cases hk:s.kind=0
    ·have dk:(s.kind==0)=true:=by simp [hk]
     have bm:(s.kind != 0)=false:=by simp [hk]
     by_cases aW:0<=a
     ·have d2:decide (a<0)=false:=decide_eq_false (by omega)
      have da:decide (a<0)=false:=by simp;omega
      obtain ⟨A,rfl⟩:∃A:Nat,a=(A:Int):=⟨a.toNat,by omega⟩
      have hA:A<ln:=by omega
      have ax:0<im:=by rcases a0 with h|h <;> omega
      obtain ⟨K,hK⟩:∃K:Nat,1+l.inputs+(sn:Int)+(A:Int)=(K:Int):=⟨(1+l.inputs+(sn:Int)+(A:Int)).toNat,by omega⟩
      have ao:K<l.count:=by have:=aZ.out;omega
      have a2:AY l ((l.first:Int)+(A:Int))=cnt (kY l) (K:Int):=by rw [ym,a5.out,hK]
      have a4:(l.first:Int)+(A:Int)=(K:Int):=by rw [a5.out,hK]
      rw [a2,a4] at D
      have bp:l.count<=1048576:=by have:=aZ.out;omega
      have HK:=Hd hK
      obtain ⟨bi,oi,rfl,aY,a7⟩:=bq.out.ints.2 ax
      have ci:=a7 0 ax
      have G:=aK u.out aY
      rw [←u.out.cell (p:=⟨bi,oi+0,none⟩) aY,Nat.add_zero] at ci
      clear a7 a0 al aw a2 a4 hK
      generalize s.ins[0]?.getD 0=y at *
      have HU:=Hd (fun (v:World) (hv:Below w.heap.size w v)=>zl l (some ⟨bs,os,none⟩) LA OA sn sc ln lc on oc v (HN.out.below hv) HF.out)
      obtain ⟨C,hC⟩:∃C,l.count=C:=⟨_,rfl⟩
      rw [hC] at ao bp HU
      have HC:=Hd hC
      clear hC
      by_cases hy:y=(K:Int)
      ·by_cases hq:cnt (kY l) (K:Int)=1
       ·have I:Hid (dQ l ⟨(A:Int),(F:Int)⟩):=D.2 ⟨⟨by omega,by omega⟩,⟨by omega,by omega⟩,by omega,fun _=>hk,fun _ _=>⟨hy,hq⟩⟩
        have HQ:=Hd hq
        subst hy
        clear D hq hk
        go_enter Tryz.func254,Tryz.ntmps254
        go_upto_region 1 with fail
        generalize (w.alloc (.cells (ak l (some ⟨bs,os,none⟩) LA OA sn sc ln lc on oc) 41)).alloc (.cells #[.int .i64 (A:Int),.int .i64 (F:Int)] 94)=B at *
        obtain ⟨x0,Y,R,x3⟩:=cs4 g.out
        obtain ⟨y0,Z⟩:=cs2 j.out
        have U:=aB g.out
        have W:=aB j.out
        go_wp2_with fail
        refine (aj (A:Int) (-1) ((ln:Int) - 1) _).mono ?_
        rw [H1.out]
        rintro _ w' ⟨rfl,rfl⟩
        go_wp2_with fail
        refine (aj (F:Int) (-1) ((sn:Int) - 1) _).mono ?_
        rw [H2.out]
        rintro _ w' ⟨rfl,rfl⟩
        go_upto_region 7 with fail
        have am:=Hd (fun (x:Sub B)=>nk l.inputs (some ⟨bs,os,none⟩) LA OA sn sc ln lc on oc x.v aH.1 (by omega) (by omega))
        have Q:=aX B
        have ap:=aP B
        refine wpB B ?_
        repeat (go_big_quiet_step ((first
         | (go_at_call 156;with_reducible exact aN (am.out _)))))
        refine wpQuiet_nil ?_
        rintro _ ⟨⟨w5,z⟩,rfl⟩
        clear Q ap
        rw [HK.out]
        have HD:=Hd (aA u.out z)
        have J:=Hd (aC z g.out)
        have V:=Hd (aC z j.out)
        have ay:=aK z H
        have az:=aK z G
        rw [←z.cell (p:=⟨bs,os+F * 3+2,none⟩) H] at c2
        rw [←z.cell (p:=⟨bi,oi,none⟩) G] at ci
        clear x0 Y R x3 y0 Z U W z c0 H G
        obtain ⟨x0,Y,R,x3⟩:=cs4 J.out
        have Z:=aF (k:=1) V.out rfl
        have U:=aB J.out
        have W:=aB V.out
        go_wp2_with fail
        refine (HU.out _ HD.out).mono ?_
        rintro _ w6 ⟨UA,rfl,o6,b6⟩
        have aM:=Hd (aA HD.out b6)
        obtain ⟨bu,ou,rfl,bh,ah⟩:=o6.ints.2 (by omega)
        have cu:=ah K ao
        rw [jb _ ao,HQ.out] at cu
        clear o6 b6 ah x0 Y R x3 Z U W c2 ci
        go_wp2_with fail
        go_ret
        exact ⟨dU I.out,aM.out⟩
       have I:Hid (¬dQ l ⟨(A:Int),(F:Int)⟩):=fun h=>hq ((D.1 h).2.2.2.2 (by omega) (by omega)).2
       have bL:=fC (kY l) (K:Int)
       have HQ:=Hd hq
       subst hy
       clear D hq hk
       go_enter Tryz.func254,Tryz.ntmps254
       go_upto_region 1 with fail
       generalize (w.alloc (.cells (ak l (some ⟨bs,os,none⟩) LA OA sn sc ln lc on oc) 41)).alloc (.cells #[.int .i64 (A:Int),.int .i64 (F:Int)] 94)=B at *
       obtain ⟨x0,Y,R,x3⟩:=cs4 g.out
       obtain ⟨y0,Z⟩:=cs2 j.out
       have U:=aB g.out
       have W:=aB j.out
       go_wp2_with fail
       refine (aj (A:Int) (-1) ((ln:Int) - 1) _).mono ?_
       rw [H1.out]
       rintro _ w' ⟨rfl,rfl⟩
       go_wp2_with fail
       refine (aj (F:Int) (-1) ((sn:Int) - 1) _).mono ?_
       rw [H2.out]
       rintro _ w' ⟨rfl,rfl⟩
       go_upto_region 7 with fail
       have am:=Hd (fun (x:Sub B)=>nk l.inputs (some ⟨bs,os,none⟩) LA OA sn sc ln lc on oc x.v aH.1 (by omega) (by omega))
       have Q:=aX B
       have ap:=aP B
       refine wpB B ?_
       repeat (go_big_quiet_step ((first
        | (go_at_call 156;with_reducible exact aN (am.out _)))))
       refine wpQuiet_nil ?_
       rintro _ ⟨⟨w5,z⟩,rfl⟩
       clear Q ap
       rw [HK.out]
       have HD:=Hd (aA u.out z)
       have J:=Hd (aC z g.out)
       have V:=Hd (aC z j.out)
       have ay:=aK z H
       have az:=aK z G
       rw [←z.cell (p:=⟨bs,os+F * 3+2,none⟩) H] at c2
       rw [←z.cell (p:=⟨bi,oi,none⟩) G] at ci
       clear x0 Y R x3 y0 Z U W z c0 H G
       obtain ⟨x0,Y,R,x3⟩:=cs4 J.out
       have Z:=aF (k:=1) V.out rfl
       have U:=aB J.out
       have W:=aB V.out
       go_wp2_with fail
       refine (HU.out _ HD.out).mono ?_
       rintro _ w6 ⟨UA,rfl,o6,b6⟩
       have aM:=Hd (aA HD.out b6)
       obtain ⟨bu,ou,rfl,bh,ah⟩:=o6.ints.2 (by omega)
       have cu:=ah K ao
       rw [jb _ ao] at cu
       clear o6 b6 ah x0 Y R x3 Z U W c2 ci
       generalize cnt (kY l) (K:Int)=q at *
       have dq:(((q:Nat):Int)==1)=false:=by have:=HQ.out;simp;omega
       go_wp2_with fail
       go_ret
       exact ⟨aO I.out,aM.out⟩
      have I:Hid (¬dQ l ⟨(A:Int),(F:Int)⟩):=fun h=>hy ((D.1 h).2.2.2.2 (by omega) (by omega)).1
      have dy:(y==(K:Int))=false:=by simp;exact hy
      clear D hk hy
      go_enter Tryz.func254,Tryz.ntmps254
      go_upto_region 1 with fail
      generalize (w.alloc (.cells (ak l (some ⟨bs,os,none⟩) LA OA sn sc ln lc on oc) 41)).alloc (.cells #[.int .i64 (A:Int),.int .i64 (F:Int)] 94)=B at *
      obtain ⟨x0,Y,R,x3⟩:=cs4 g.out
      obtain ⟨y0,Z⟩:=cs2 j.out
      have U:=aB g.out
      have W:=aB j.out
      go_wp2_with fail
      refine (aj (A:Int) (-1) ((ln:Int) - 1) _).mono ?_
      rw [H1.out]
      rintro _ w' ⟨rfl,rfl⟩
      go_wp2_with fail
      refine (aj (F:Int) (-1) ((sn:Int) - 1) _).mono ?_
      rw [H2.out]
      rintro _ w' ⟨rfl,rfl⟩
      go_upto_region 7 with fail
      have am:=Hd (fun (x:Sub B)=>nk l.inputs (some ⟨bs,os,none⟩) LA OA sn sc ln lc on oc x.v aH.1 (by omega) (by omega))
      have Q:=aX B
      have ap:=aP B
      refine wpB B ?_
      repeat (go_big_quiet_step ((first
       | (go_at_call 156;with_reducible exact aN (am.out _)))))
      refine wpQuiet_nil ?_
      rintro _ ⟨⟨w5,z⟩,rfl⟩
      clear Q ap
      rw [HK.out]
      have HD:=Hd (aA u.out z)
      have J:=Hd (aC z g.out)
      have V:=Hd (aC z j.out)
      have ay:=aK z H
      have az:=aK z G
      rw [←z.cell (p:=⟨bs,os+F * 3+2,none⟩) H] at c2
      rw [←z.cell (p:=⟨bi,oi,none⟩) G] at ci
      clear x0 Y R x3 y0 Z U W z c0 H G
      obtain ⟨x0,Y,R,x3⟩:=cs4 J.out
      have Z:=aF (k:=1) V.out rfl
      have U:=aB J.out
      have W:=aB V.out
      go_wp2_with fail
      go_ret
      exact ⟨aO I.out,HD.out⟩
     have I:Hid (dQ l ⟨a,(F:Int)⟩):=D.2 ⟨⟨by omega,by omega⟩,⟨by omega,by omega⟩,hn,fun _=>hk,fun h=>absurd h aW⟩
     have d2:decide (a<0)=true:=decide_eq_true (by omega)
     obtain rfl:a=-1:=by omega
     clear D hk aw al hn aW
     go_enter Tryz.func254,Tryz.ntmps254
     go_upto_region 1 with fail
     generalize (w.alloc (.cells (ak l (some ⟨bs,os,none⟩) LA OA sn sc ln lc on oc) 41)).alloc (.cells #[.int .i64 (-1),.int .i64 (F:Int)] 94)=B at *
     obtain ⟨-,Y,R⟩:=cs3 g.out
     obtain ⟨y0,Z⟩:=cs2 j.out
     have U:=aB g.out
     have W:=aB j.out
     go_wp2_with fail
     refine (aj (-1) (-1) ((ln:Int) - 1) _).mono ?_
     rw [H1.out]
     rintro _ w' ⟨rfl,rfl⟩
     go_wp2_with fail
     refine (aj (F:Int) (-1) ((sn:Int) - 1) _).mono ?_
     rw [H2.out]
     rintro _ w' ⟨rfl,rfl⟩
     go_wp2_with fail
     go_ret
     exact ⟨dU I.out,u.out⟩
    have bm:(s.kind != 0)=true:=by simp;exact hk
    have I:Hid (¬dQ l ⟨a,(F:Int)⟩):=fun h=>hk ((D.1 h).2.2.2.1 (by omega))
    clear D hk
    rcases aw with da|⟨da,_⟩
    ·clear al
     go_enter Tryz.func254,Tryz.ntmps254
     go_upto_region 1 with fail
     generalize (w.alloc (.cells (ak l (some ⟨bs,os,none⟩) LA OA sn sc ln lc on oc) 41)).alloc (.cells #[.int .i64 a,.int .i64 (F:Int)] 94)=B at *
     obtain ⟨-,Y,R⟩:=cs3 g.out
     obtain ⟨y0,Z⟩:=cs2 j.out
     have U:=aB g.out
     have W:=aB j.out
     go_wp2_with fail
     refine (aj a (-1) ((ln:Int) - 1) _).mono ?_
     rw [H1.out]
     rintro _ w' ⟨rfl,rfl⟩
     go_wp2_with fail
     refine (aj (F:Int) (-1) ((sn:Int) - 1) _).mono ?_
     rw [H2.out]
     rintro _ w' ⟨rfl,rfl⟩
     go_wp2_with fail
     go_ret
     exact ⟨aO I.out,u.out⟩
    clear al
    go_enter Tryz.func254,Tryz.ntmps254
    go_upto_region 1 with fail
    generalize (w.alloc (.cells (ak l (some ⟨bs,os,none⟩) LA OA sn sc ln lc on oc) 41)).alloc (.cells #[.int .i64 a,.int .i64 (F:Int)] 94)=B at *
    obtain ⟨-,Y,R⟩:=cs3 g.out
    obtain ⟨y0,Z⟩:=cs2 j.out
    have U:=aB g.out
    have W:=aB j.out
    go_wp2_with fail
    refine (aj a (-1) ((ln:Int) - 1) _).mono ?_
    rw [H1.out]
    rintro _ w' ⟨rfl,rfl⟩
    go_wp2_with fail
    refine (aj (F:Int) (-1) ((sn:Int) - 1) _).mono ?_
    rw [H2.out]
    rintro _ w' ⟨rfl,rfl⟩
    go_wp2_with fail
    go_ret
    exact ⟨aO I.out,u.out⟩
   have d1:decide (b≥0)=false:=decide_eq_false aT
   obtain rfl:b=-1:=by omega
   have da:decide (a<0)=false:=by simp;omega
   have I:Hid (dQ l ⟨a,-1⟩):=D.2 ⟨⟨by omega,by omega⟩,⟨by omega,by omega⟩,hn,fun h=>by omega,fun _ h=>by omega⟩
   have d2:decide (a<0)=false:=decide_eq_false (by omega)
   clear D hn aT aw al
   go_enter Tryz.func254,Tryz.ntmps254
   go_upto_region 1 with fail
   generalize (w.alloc (.cells (ak l SA LA OA sn sc ln lc on oc) 41)).alloc (.cells #[.int .i64 a,.int .i64 (-1)] 94)=B at *
   obtain ⟨-,Y,R⟩:=cs3 g.out
   obtain ⟨y0,Z⟩:=cs2 j.out
   have U:=aB g.out
   have W:=aB j.out
   go_wp2_with fail
   refine (aj a (-1) ((ln:Int) - 1) _).mono ?_
   rw [H1.out]
   rintro _ w' ⟨rfl,rfl⟩
   go_wp2_with fail
   refine (aj (-1) (-1) ((sn:Int) - 1) _).mono ?_
   rw [H2.out]
   rintro _ w' ⟨rfl,rfl⟩
   go_wp2_with fail
   go_ret
   exact ⟨dU I.out,u.out⟩
theorem rU (XA ZA:Option Addr) (xn xc zn zc:Nat) (xs W:List Int) (w:World) (hx:dE w XA xn xs) (hz:dE w ZA zn W) (aF:xn<=1048576) (aQ:zn<=1048576) :
  Calls Tryz.prog 242 #[.slice XA xn xc,.slice ZA zn zc] w fun e w'=>∃A n c,e = .returned (.slice A n c)/\Own w.heap.size w' A n c (asc (xs.filter fun x=>decide (0<x/\x∉W)))/\Below w.heap.size w w':=by
 obtain ⟨HX,HZ⟩:=hd2 hx hz
 clear hx hz
 go_enter Tryz.func242,Tryz.ntmps242
 go_wp2_with fail
 refine (oH XA xn xc xs _ HX.out aF).mono ?_
 rintro _ w1 ⟨YA,yc,rfl,⟨ys,Z,aj,ah⟩,b1⟩
 obtain ⟨aH,aT,av,ak⟩:=hd4 aj ah b1 Z.ints
 obtain ⟨n,rfl⟩:∃n,n=xn:=⟨xn,rfl⟩
 clear aj ah Z b1
 go_wp2_with fail
 go_loopw [6,7] (fun v i wr=>∃(k:Nat) (A:Option Addr) (m c:Nat),k<=n/\i = .int .i64 (k:Int)/\v = .slice A m c/\m<=k/\aJ w1 wr [.cel (aG (nR W ys k)) (.slice A m c)]) (fun _ i _=>n - (intOf i).toNat)
 ·exact ⟨0,_,_,_,by omega,rfl,rfl,by omega,(aJ.refl w1).pushNew 3 1⟩
 obtain ⟨k,A1,n1,c1,hk,rfl,rfl,bb,hs⟩:=hrel
 have R:=Hd hs
 have ay:=Hd (aA av.out hs.bel)
 clear hs
 by_cases aq:k<n
 ·have aY:=dT (by omega:k<n)
  have aN:k<ys.length:=by rw [ak.out.1];exact aq
  obtain ⟨Q,Z,aB,aw,au⟩:=ak.out.2 (by omega)
  have aL:=Hd aB
  have V:=(R.out.bel.cell (p:=⟨Q,Z+k,none⟩) aw).trans (au k aq)
  have j:=aK R.out.bel aw
  have g:nR W ys (k+1)=wm W (nR W ys k) (ys[k]?.getD 0):=rfl
  have aO:=(R.out.ints 0 rfl).1
  clear au aN aB
  obtain rfl:=aL.out
  generalize nR W ys k=out at *
  generalize ys[k]?.getD 0=x at *
  obtain ⟨i0,i1⟩:=ib (by omega:k<n)
  unfold wm at g
  by_cases z:0<x
  ·have dx:decide ((0:Int)<x)=true:=decide_eq_true z
   have K:=fun (v:Sub wr)=>nI ZA zn zc W x v.v ((HZ.out.below (aA ay.out v.h))) aQ
   by_cases H:x∈W
   ·rw [if_neg (fun h=>h.2.1 H)] at g
    have Y:=Hd g
    rw [decide_eq_true H] at K
    have U:=Hd K
    clear K g z H
    go_upto_region 6 with fail
    have q:=aX wr
    have I:=aP wr
    refine wpB wr ?_
    repeat (go_big_quiet_step ((first|(go_at_call 208;with_reducible exact aR (U.out _)))))
    refine wpQuiet_nil ?_
    rintro wq ⟨⟨w5,u⟩,D⟩
    replace D:wq=w5:=D
    subst D
    clear q I
    have ae:=(u.cell (p:=⟨Q,Z+k,none⟩) j).trans V
    have J:=aK u j
    have B:=Hd (R.out.below u)
    clear u V j
    go_wp2_with fail
    go_roundw
    ·exact ⟨k+1,A1,n1,c1,by omega,by go_num,rfl,by omega,by rw [Y.out];exact B.out⟩
    simp [intOf];omega
   rw [decide_eq_false H] at K
   have U:=Hd K
   clear K
   by_cases aS:n1=0
   ·have d0:((n1:Int)==0)=true:=by simp;omega
    have ai:out=[]:=List.eq_nil_of_length_eq_zero (by omega)
    rw [if_pos ⟨z,H,by rw [ai];simp⟩] at g
    have Y:=Hd g
    clear g z H ai aS
    go_upto_region 6 with fail
    have q:=aX wr
    have I:=aP wr
    refine wpB wr ?_
    repeat (go_big_quiet_step ((first|(go_at_call 208;with_reducible exact aR (U.out _)))))
    refine wpQuiet_nil ?_
    rintro wq ⟨⟨w5,u⟩,D⟩
    replace D:wq=w5:=D
    subst D
    clear q I
    have ae:=(u.cell (p:=⟨Q,Z+k,none⟩) j).trans V
    have J:=aK u j
    have B:=Hd (R.out.below u)
    clear u V j d0
    go_wp2_with (at_builtin;refine dW rfl _ _ rfl _ (B.out.alloc _) 0 _ n1 c1 out x _ (0,0) rfl rfl rfl (aI _ _) (by omega) ?_;intro g9 am w9 S9 ao;have al:=Hd S9;clear S9 ao)
    go_roundw
    ·exact ⟨k+1,some ⟨g9,0,none⟩,n1+1,am,by omega,by go_num,rfl,by omega,by rw [Y.out];exact al.out⟩
    simp [intOf];omega
   have d0:((n1:Int)==0)=false:=by simp;omega
   obtain ⟨bo,oo,az,ar,aD⟩:=(R.out.ints 0 rfl).2 (by omega)
   have aM:=Hd az
   have co:=aD (n1 - 1) (by omega)
   clear aD az
   obtain rfl:=aM.out
   have G:out.getLast?=some (out[n1 - 1]?.getD 0):=by rw [List.getLast?_eq_getElem?,aO,List.getElem?_eq_getElem (by omega)];rfl
   generalize out[n1 - 1]?.getD 0=y at *
   have in1:(0:Int)<=(n1:Int) - 1:=by omega
   have in2:(n1:Int) - 1<(n1:Int):=by omega
   have in3:((n1:Int) - 1).toNat=n1 - 1:=by omega
   have e3:IntKind.i64.wrap ((n1:Int) - 1)=(n1:Int) - 1:=IntWalk.i64_in _ (by omega)
   by_cases ag:y=x
   ·subst ag
    rw [if_neg (fun h=>h.2.2 G)] at g
    have Y:=Hd g
    clear g z H G
    go_upto_region 6 with fail
    have q:=aX wr
    have I:=aP wr
    refine wpB wr ?_
    repeat (go_big_quiet_step ((first|(go_at_call 208;with_reducible exact aR (U.out _)))))
    refine wpQuiet_nil ?_
    rintro wq ⟨⟨w5,u⟩,D⟩
    replace D:wq=w5:=D
    subst D
    clear q I
    have ae:=(u.cell (p:=⟨Q,Z+k,none⟩) j).trans V
    have J:=aK u j
    have B:=Hd (R.out.below u)
    clear u V j co ar in1 in2 in3 e3
    go_wp2_with fail
    go_roundw
    ·exact ⟨k+1,_,n1,c1,by omega,by go_num,rfl,by omega,by rw [Y.out];exact B.out⟩
    simp [intOf];omega
   have dy:(y != x)=true:=by simp [ag]
   rw [if_pos ⟨z,H,by rw [G];intro h;injection h with h;exact ag h⟩] at g
   have Y:=Hd g
   clear g z H G ag
   go_upto_region 6 with fail
   have q:=aX wr
   have I:=aP wr
   refine wpB wr ?_
   repeat (go_big_quiet_step ((first|(go_at_call 208;with_reducible exact aR (U.out _)))))
   refine wpQuiet_nil ?_
   rintro wq ⟨⟨w5,u⟩,D⟩
   replace D:wq=w5:=D
   subst D
   clear q I
   have ae:=(u.cell (p:=⟨Q,Z+k,none⟩) j).trans V
   have J:=aK u j
   have B:=Hd (R.out.below u)
   clear u V j co ar in1 in2 in3 e3
   go_wp2_with (at_builtin;refine dW rfl _ _ rfl _ (B.out.alloc _) 0 _ n1 c1 out x _ (0,0) rfl rfl rfl (aI _ _) (by omega) ?_;intro g9 am w9 S9 ao;have al:=Hd S9;clear S9 ao)
   go_roundw
   ·exact ⟨k+1,some ⟨g9,0,none⟩,n1+1,am,by omega,by go_num,rfl,by omega,by rw [Y.out];exact al.out⟩
   simp [intOf];omega
  have dx:decide ((0:Int)<x)=false:=decide_eq_false z
  rw [if_neg (fun h=>z h.1)] at g
  have Y:=Hd g
  clear g z
  go_upto_region 6 with fail
  have q:=aX wr
  have I:=aP wr
  refine wpB wr ?_
  repeat (go_big_quiet_step ((fail)))
  refine wpQuiet_nil ?_
  rintro wq ⟨⟨w5,u⟩,D⟩
  replace D:wq=w5:=D
  subst D
  clear q I
  have ae:=(u.cell (p:=⟨Q,Z+k,none⟩) j).trans V
  have J:=aK u j
  have B:=Hd (R.out.below u)
  clear u V j
  go_wp2_with fail
  go_roundw
  ·exact ⟨k+1,A1,n1,c1,by omega,by go_num,rfl,by omega,by rw [Y.out];exact B.out⟩
  simp [intOf];omega
 have ax:k=n:=by omega
 have aY:=dF (by omega:n<=k)
 have HD:Hid (Own w.heap.size wr A1 n1 c1 (asc (xs.filter fun x=>decide (0<x/\x∉W)))):=by
  have h:=(R.out.owned 0 rfl).more av.out.size
  rw [ax,←ak.out.1,Aa aT.out aH.out] at h
  exact h
 clear R ax
 go_wp2_with fail
 go_ret
 exact ⟨_,_,_,rfl,HD.out,ay.out⟩
theorem BG (l:ai) (SA LA OA:Option Addr) (sn sc ln lc on oc:Nat) (a b:Int) (w:World) (h:fo w l SA LA OA sn sc ln lc on oc) (hf:bA l) (he:dQ l ⟨a,b⟩) :
  Calls Tryz.prog 241 #[jI l SA LA OA sn sc ln lc on oc,.agg #[.int .i64 a,.int .i64 b]] w fun e w'=>∃A n c,e = .returned (.slice A n c)/\Own w.heap.size w' A n c (iB l ⟨a,b⟩)/\Below w.heap.size w w':=by
 have hk:=Ab (l:=l) (e:=⟨a,b⟩) fun x hx=>((qX hf he).2 x hx).1
 have Z:qF l ⟨a,b⟩=if 0<=a then (l.luts[a.toNat]?.getD Lt.zero).ins else (l.seqs[b.toNat]?.getD Sq.zero).ins:=rfl
 obtain ⟨e1,e2,e3,_⟩:=nC.1 he
 have q:=(qX hf he).1
 rw [Z] at q hk
 have j:=hk.symm
 clear hk Z
 have g:=Hd (aD (aD (Below.refl w.heap.size w) (.cells (ak l SA LA OA sn sc ln lc on oc) 41)) (.cells #[.int .i64 a,.int .i64 b] 94))
 have hx:=bS (.cells #[.int .i64 a,.int .i64 b] 94) (aI w (.cells (ak l SA LA OA sn sc ln lc on oc) 41))
 have hy:=aI (w.alloc (.cells (ak l SA LA OA sn sc ln lc on oc) 41)) (.cells #[.int .i64 a,.int .i64 b] 94)
 simp only [World.size_alloc] at hy
 obtain ⟨z,B⟩:=hd2 hx hy
 clear hx hy
 obtain ⟨H,G,K⟩:=h.lens
 have am:=hf.nseq
 have ar:=hf.nlut
 have aj:=hf.nout
 have ax:=hf.inp
 rw [H] at am
 rw [G] at ar
 rw [K] at aj
 obtain ⟨HN,HF,ad,Y,ay⟩:=hd5 h hf H G K
 have aJ:Hid ((l.first:Int)=1+l.inputs+(sn:Int)):=by show _=_;unfold ai.first;omega
 have aE:Hid ((l.count:Int)=1+l.inputs+(sn:Int)+(ln:Int)):=by show _=_;unfold ai.count ai.first;omega
 clear h hf H G K
 by_cases h0:0<=a
 ·have d0:decide (a≥0)=true:=decide_eq_true h0
  rw [if_pos h0] at j q
  obtain ⟨X,rfl⟩:∃X:Nat,a=(X:Int):=⟨a.toNat,by omega⟩
  rw [Int.toNat_natCast] at j q
  have hX:X<ln:=by have:=Y.out;omega
  obtain ⟨bb,W,S,m,p,rfl,u,c0,c1,J⟩:=HN.out.lt.lut' (k:=X) (by rw [Y.out];exact hX)
  have al:=aK g.out u
  rw [←g.out.cell (p:=⟨bb,W+X * 2,none⟩) u] at c0
  have D:=Hd J.ints
  rw [J.ints.1] at q
  have R:=Hd j
  clear c1 J j e1 e2 e3 he
  generalize (l.luts[X]?.getD Lt.zero).ins=src at *
  go_enter Tryz.func241,Tryz.ntmps241
  go_upto_region 1 with fail
  generalize (w.alloc (.cells (ak l SA (some ⟨bb,W,none⟩) OA sn sc ln lc on oc) 41)).alloc (.cells #[.int .i64 (X:Int),.int .i64 b] 94)=W9 at *
  have x2:=aF (k:=2) z.out rfl
  have y0:=aF (k:=0) B.out rfl
  have lx:=aB z.out
  have ly:=aB B.out
  go_wp2_with fail
  clear x2 y0 lx ly c0
  refine (rU S _ m p 0 0 src [] _ (D.out.below (aD (aA g.out (Below.refl _ _)) _)) ⟨rfl,fun h=>by omega⟩ (by omega) (by omega)).mono ?_
  rintro _ w1 ⟨A1,n1,c1,rfl,U,V⟩
  have Q:=Hd (show Own w.heap.size w1 A1 n1 c1 _ from U.more (Nat.le_trans g.out.size (by simp)))
  have I:=Hd (aA (aD g.out _) V)
  clear U V
  go_wp2_with fail
  go_ret
  exact ⟨_,_,_,rfl,by rw [R.out];exact Q.out,I.out⟩
 have d0:decide (a≥0)=false:=decide_eq_false h0
 rw [if_neg h0] at j q
 obtain ⟨X,rfl⟩:∃X:Nat,b=(X:Int):=⟨b.toNat,by omega⟩
 rw [Int.toNat_natCast] at j q
 have hX:X<sn:=by have:=ad.out;omega
 obtain ⟨bb,W,S,m,p,rfl,u,c0,c1,c2,J⟩:=HN.out.sq.sq' (k:=X) (by rw [ad.out];exact hX)
 have al:=aK g.out u
 rw [←g.out.cell (p:=⟨bb,W+X * 3+2,none⟩) u] at c2
 have D:=Hd J.ints
 rw [J.ints.1] at q
 have R:=Hd j
 clear c0 c1 J j e1 e2 e3 he
 generalize (l.seqs[X]?.getD Sq.zero).ins=src at *
 go_enter Tryz.func241,Tryz.ntmps241
 go_upto_region 1 with fail
 generalize (w.alloc (.cells (ak l (some ⟨bb,W,none⟩) LA OA sn sc ln lc on oc) 41)).alloc (.cells #[.int .i64 a,.int .i64 (X:Int)] 94)=W9 at *
 have x1:=aF (k:=1) z.out rfl
 obtain ⟨y0,y1⟩:=cs2 B.out
 have lx:=aB z.out
 have ly:=aB B.out
 go_wp2_with fail
 clear x1 y0 y1 lx ly c2
 refine (rU S _ m p 0 0 src [] _ (D.out.below (aD (aA g.out (Below.refl _ _)) _)) ⟨rfl,fun h=>by omega⟩ (by omega) (by omega)).mono ?_
 rintro _ w1 ⟨A1,n1,c1,rfl,U,V⟩
 have Q:=Hd (show Own w.heap.size w1 A1 n1 c1 _ from U.more (Nat.le_trans g.out.size (by simp)))
 have I:=Hd (aA (aD g.out _) V)
 clear U V
 go_wp2_with fail
 go_ret
 exact ⟨_,_,_,rfl,by rw [R.out];exact Q.out,I.out⟩
end Go.Proofs.YtofihjoanjkdmaaGreat
