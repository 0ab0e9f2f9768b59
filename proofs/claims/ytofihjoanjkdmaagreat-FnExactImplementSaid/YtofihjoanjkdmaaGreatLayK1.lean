/- The reference's test whether a network of look-up tables is valid: its parts (printed by mklns.py). -/
import Derived.Test.YtofihjoanjkdmaaGreatLayArg
import Derived.Test.YtofihjoanjkdmaaGreatLayDM
import Derived.Test.YtofihjoanjkdmaaGreatLayDP
import Derived.Test.YtofihjoanjkdmaaGreatLayS13
namespace Go.Proofs.YtofihjoanjkdmaaGreat
set_option maxHeartbeats 8000000
set_option maxRecDepth 100000
open Go.RowKit
theorem rP(g:Int)(SA LA OA:Oh)(sn sc ln lc on oc:Nat)(w:World)(h0:0<=g)(h1:g<=1099511627776)(h2:sn<=1099511627776) :
  Calls Tryz.prog 156 #[.agg #[.int .i64 g,.slice SA sn sc,.slice LA ln lc,.slice OA on oc]] w fun e w'=>e=.returned (.int .i64 (1+g+(sn:Int)))/\Below w.heap.size w w':=by
 go_enter Tryz.func156,Tryz.ntmps156;go_wp2;go_ret;exact⟨rfl,aB (Below.refl _ _) _⟩
theorem nY(A:Oh)(n c:Nat)(xs:List Int)(m:Int)(w:World)(h:bT w A n xs)(hn:n<=1048576)(_:0<=m/\m<=1048576) :
  Calls Tryz.prog 154 #[.slice A n c,.int .i64 m] w fun e w'=>e=.returned (.bool (tb (kN xs m)))/\w=w':=by
 have U:=Hd h;clear h;go_enter Tryz.func154,Tryz.ntmps154;go_wp2
 go_loopw[5] (fun i wr=>∃k:Nat,k<=n/\i=.int .i64 (k:Int)/\w=wr/\∀j,j<k→0<=xs[j]?.getD 0/\xs[j]?.getD 0<m) (fun i _=>n-(intOf i).toNat)
 ·exact⟨0,by omega,rfl,rfl,fun j hj=>by omega⟩
 obtain⟨k,hk,rfl,rfl,g⟩:=hrel;have q:=Hd g;clear g;by_cases H:k<n
 ·have R:=dT (by omega:k<n);obtain⟨b,o,rfl,hb,hc⟩:=U.1.2 (by omega);have J:=hc k H;have B:k<xs.length:=by rw[U.1.1];exact H
  have D:=Hd (List.getElem_mem B);have G:Hv (0<=xs[k]?.getD 0/\xs[k]?.getD 0<m→∀j,j<k+1→0<=xs[j]?.getD 0/\xs[j]?.getD 0<m):=Hd<|fun h=>fQ q.1 h
  rw[List.getElem?_eq_getElem B,Option.getD_some]at J G;generalize xs[k]=x at *;obtain⟨V,W⟩:=ib (by omega:k<n);clear hc;by_cases u:x<0
  ·have I:Hv (¬kN xs m):=Hd<|fun h=>by have:=(h x D.1).1;omega
   have hd:decide (x<0)=true:=decide_eq_true u;clear G u;go_wp2;go_ret;exact⟨bg I.1,rfl⟩
  have hd:decide (x<0)=false:=decide_eq_false u;by_cases z:x<m
  ·have K:=Hd (G.1 ⟨by omega,z⟩);have hd2:decide (x≥m)=false:=decide_eq_false (by omega);clear G z;go_wp2;go_roundw
   ·exact⟨k+1,by omega,by go_num,by first|rfl|trivial,K.1⟩
   simp[intOf];omega
  have I:Hv (¬kN xs m):=Hd<|fun h=>z (h x D.1).2
  have hd2:decide (x≥m)=true:=decide_eq_true (by omega);clear G;go_wp2;go_ret;exact⟨bg I.1,rfl⟩
 have Q:k=n:=by omega
 subst Q;have R:decide ((k:Int)<(k:Int))=false:=by simp
 go_wp2;go_ret;refine⟨mY fun x hx=>?_,rfl⟩;obtain⟨j,hj,rfl⟩:=List.getElem_of_mem hx;have:=q.1 j (by rw[←U.1.1];exact hj);rwa[List.getElem?_eq_getElem hj,Option.getD_some]at this
theorem ul(l:aU)(SA LA OA:Oh)(sn sc ln lc on oc:Nat)(w:World)(hi:0<=l.inputs/\l.inputs<=20)(h1:sn<=12)(h2:ln<=400)(h3:on<=16) :
  Calls Tryz.prog 153 #[ig l SA LA OA sn sc ln lc on oc] w fun e w'=>e=.returned (.int .i64 (1+l.inputs+(sn:Int)+(ln:Int)))/\Below w.heap.size w w':=by
 have g:=Hd (aB (Below.refl w.heap.size w) (.cells (bX l SA LA OA sn sc ln lc on oc) 41));have j:Hv (inR l.inputs 0 20=true):=Hd<|aR.2 hi
 have q:decide ((12:Int)<(sn:Int))=false:=decide_eq_false (by omega);have d2:decide ((400:Int)<(ln:Int))=false:=decide_eq_false (by omega);have d3:decide ((16:Int)<(on:Int))=false:=decide_eq_false (by omega);go_enter Tryz.func153,Tryz.ntmps153;go_wp2_with fail;refine(bV l.inputs 0 20 _).mono ?_;rw[j.1];rintro _ u ⟨rfl,rfl⟩;go_wp2;go_ret;exact⟨rfl,g.1⟩
theorem Dw(l:aU)(SA LA OA:Oh)(sn sc ln lc on oc:Nat)(w:World)(h:¬((0<=l.inputs/\l.inputs<=20)/\sn<=12/\ln<=400/\on<=16)) :
  Calls Tryz.prog 153 #[ig l SA LA OA sn sc ln lc on oc] w fun e w'=>e=.returned (.int .i64 0)/\Below w.heap.size w w':=by
 have g:=Hd (aB (Below.refl w.heap.size w) (.cells (bX l SA LA OA sn sc ln lc on oc) 41))
 cases hr:inR l.inputs 0 20 with
 | false =>
  have j:=Hd hr;clear hr h;go_enter Tryz.func153,Tryz.ntmps153;go_wp2_with fail;refine(bV l.inputs 0 20 _).mono ?_;rw[j.1];rintro _ q ⟨rfl,rfl⟩;go_wp2;go_ret
  exact⟨rfl,g.1⟩
 | true =>
  have j:=Hd hr;have hi:=aR.1 hr;clear hr;by_cases h1:sn<=12
  ·have u:decide ((12:Int)<(sn:Int))=false:=decide_eq_false (by omega);by_cases h2:ln<=400
   ·have d2:decide ((400:Int)<(ln:Int))=false:=decide_eq_false (by omega);have h3:¬on<=16:=fun h3=>h ⟨hi,h1,h2,h3⟩;have d3:decide ((16:Int)<(on:Int))=true:=decide_eq_true (by omega);clear h h1 h2 h3 hi;go_enter Tryz.func153,Tryz.ntmps153;go_wp2_with fail;refine(bV l.inputs 0 20 _).mono ?_;rw[j.1];rintro _ q ⟨rfl,rfl⟩;go_wp2;go_ret;exact⟨rfl,g.1⟩
   have d2:decide ((400:Int)<(ln:Int))=true:=decide_eq_true (by omega);clear h h1 h2 hi;go_enter Tryz.func153,Tryz.ntmps153;go_wp2_with fail;refine(bV l.inputs 0 20 _).mono ?_;rw[j.1];rintro _ q ⟨rfl,rfl⟩;go_wp2;go_ret;exact⟨rfl,g.1⟩
  have u:decide ((12:Int)<(sn:Int))=true:=decide_eq_true (by omega);clear h h1 hi;go_enter Tryz.func153,Tryz.ntmps153;go_wp2_with fail;refine(bV l.inputs 0 20 _).mono ?_;rw[j.1];rintro _ q ⟨rfl,rfl⟩;go_wp2;go_ret;exact⟨rfl,g.1⟩
theorem GR(n:Nat)(w:World)(hn:n<=4) :
  Calls Tryz.prog 239 #[.int .i64 (n:Int)] w fun e w'=>e=.returned (.int .i64 (((2 ^ 2 ^ n:Nat):Int)-1))/\w=w':=by
 have hc:n=0∨n=1∨n=2∨n=3∨n=4:=by omega
 rcases hc with rfl|rfl|rfl|rfl|rfl
 ·show Calls Tryz.prog 239 #[.int .i64 0] w fun e w'=>e=.returned (.int .i64 1)/\w=w';go_enter Tryz.func239,Tryz.ntmps239;go_wp2;go_ret;exact⟨rfl,rfl⟩
 ·show Calls Tryz.prog 239 #[.int .i64 1] w fun e w'=>e=.returned (.int .i64 3)/\w=w';go_enter Tryz.func239,Tryz.ntmps239;go_wp2;go_ret;exact⟨rfl,rfl⟩
 ·show Calls Tryz.prog 239 #[.int .i64 2] w fun e w'=>e=.returned (.int .i64 15)/\w=w';go_enter Tryz.func239,Tryz.ntmps239;go_wp2;go_ret;exact⟨rfl,rfl⟩
 ·show Calls Tryz.prog 239 #[.int .i64 3] w fun e w'=>e=.returned (.int .i64 255)/\w=w';go_enter Tryz.func239,Tryz.ntmps239;go_wp2;go_ret;exact⟨rfl,rfl⟩
 show Calls Tryz.prog 239 #[.int .i64 4] w fun e w'=>e=.returned (.int .i64 65535)/\w=w';go_enter Tryz.func239,Tryz.ntmps239;go_wp2;go_ret;exact⟨rfl,rfl⟩
theorem Dx(n:Nat)(m:Int)(w:World) :
  Calls Tryz.prog 155 #[.agg #[.int .i64 (n:Int),.int .i64 m]] w fun e w'=>e=.returned (.bool (tb (jE n m)))/\Below w.heap.size w w':=by
 have B:=Hd (aB (Below.refl w.heap.size w) (.cells #[.int .i64 (n:Int),.int .i64 m] 188));have hx:=aG w (.cells #[.int .i64 (n:Int),.int .i64 m] 188);obtain⟨Q,U,R⟩:=iC hx
 have D:Hv (jE n m↔inR (n:Int) 0 4=true/\0<=m/\m<=((2 ^ 2 ^ n:Nat):Int)-1):=Hd<|by
  show _↔_;rw[aR];unfold jE;have e:((2 ^ 2 ^ n:Nat):Int)=2 ^ 2 ^ n:=by simp
  rw[e];omega
 clear hx;have I:=fun(x:Sub (w.alloc (.cells #[.int .i64 (n:Int),.int .i64 m] 188)))=>bV (n:Int) 0 4 x.v
 cases hr:inR (n:Int) 0 4 with
 | false =>
  rw[hr]at I;have H:Hv (¬jE n m):=Hd<|fun h=>by rw[(D.1.1 h).1]at hr;cases hr
  have K:=Hd I;clear hr I D;go_enter Tryz.func155,Tryz.ntmps155;go_upto_region 1 with fail;generalize w.alloc (.cells #[.int .i64 (n:Int),.int .i64 m] 188)=j at *;have g:=dB j;have u:=au j;refine wpB j ?_
  repeat(go_big_quiet_step ((first
   | (go_at_call 83;with_reducible exact aX (K.1 _)))))
  refine wpQuiet_nil ?_;rintro _ ⟨⟨V,z⟩,rfl⟩;clear g u;have G:=Hd (aA B.1 z);clear z Q U R;go_wp2;go_ret
  exact⟨bg H.1,G.1⟩
 | true =>
  rw[hr]at I;have K:=Hd I;have W:n<=4:=by have:=aR.1 hr;omega
  have J:=Hd (fun(x:Sub (w.alloc (.cells #[.int .i64 (n:Int),.int .i64 m] 188)))=>GR n x.v W);have HR:=Hd hr;clear hr I;generalize ((2 ^ 2 ^ n:Nat):Int)-1=q at *;by_cases h0:0<=m
  ·have Z:decide (m≥0)=true:=decide_eq_true h0;by_cases h1:m<=q
   ·have Y:decide (m<=q)=true:=decide_eq_true h1;have H:Hv (jE n m):=Hd<|D.1.2 ⟨HR.1,h0,h1⟩
    clear D h1;go_enter Tryz.func155,Tryz.ntmps155;go_upto_region 1 with fail;generalize w.alloc (.cells #[.int .i64 (n:Int),.int .i64 m] 188)=j at *;have g:=dB j;have u:=au j;refine wpB j ?_
    repeat(go_big_quiet_step ((first
     | (go_at_call 83;with_reducible exact aX (K.1 _))
     | (go_at_call 239;with_reducible exact aX (J.1 _)))))
    refine wpQuiet_nil ?_;rintro _ ⟨⟨V,z⟩,rfl⟩;clear g u;have G:=Hd (aA B.1 z);clear z Q U R;go_wp2;go_ret;exact⟨mY H.1,G.1⟩
   have Y:decide (m<=q)=false:=decide_eq_false h1;have H:Hv (¬jE n m):=Hd<|fun h=>h1 (D.1.1 h).2.2
   clear D h1;go_enter Tryz.func155,Tryz.ntmps155;go_upto_region 1 with fail;generalize w.alloc (.cells #[.int .i64 (n:Int),.int .i64 m] 188)=j at *;have g:=dB j;have u:=au j;refine wpB j ?_
   repeat(go_big_quiet_step ((first
    | (go_at_call 83;with_reducible exact aX (K.1 _))
    | (go_at_call 239;with_reducible exact aX (J.1 _)))))
   refine wpQuiet_nil ?_;rintro _ ⟨⟨V,z⟩,rfl⟩;clear g u;have G:=Hd (aA B.1 z);clear z Q U R;go_wp2;go_ret;exact⟨bg H.1,G.1⟩
  have Z:decide (m≥0)=false:=decide_eq_false h0;have H:Hv (¬jE n m):=Hd<|fun h=>h0 (D.1.1 h).2.1
  clear D h0;go_enter Tryz.func155,Tryz.ntmps155;go_upto_region 1 with fail;generalize w.alloc (.cells #[.int .i64 (n:Int),.int .i64 m] 188)=j at *;have g:=dB j;have u:=au j;refine wpB j ?_
  repeat(go_big_quiet_step ((first
   | (go_at_call 83;with_reducible exact aX (K.1 _)))))
  refine wpQuiet_nil ?_;rintro _ ⟨⟨V,z⟩,rfl⟩;clear g u;have G:=Hd (aA B.1 z);clear z Q U R;go_wp2;go_ret;exact⟨bg H.1,G.1⟩
theorem kI(l:aU)(SA LA OA:Oh)(sn sc ln lc on oc:Nat)(w:World)(h:fA w l SA LA OA sn sc ln lc on oc) :
  Calls Tryz.prog 81 #[ig l SA LA OA sn sc ln lc on oc] w fun e w'=>e=.returned (.bool (tb (bJ l)))/\Below w.heap.size w w':=by
 have u:=Hd (aB (Below.refl w.heap.size w) (.cells (bX l SA LA OA sn sc ln lc on oc) 41));have bn:=Hd (aG w (.cells (bX l SA LA OA sn sc ln lc on oc) 41));obtain⟨aY,a3,aZ⟩:=h.lens;obtain⟨HN,R,ad,aL⟩:=hd4 h aY a3 aZ;clear h aY a3 aZ;by_cases hz:(0<=l.inputs/\l.inputs<=20)/\sn<=12/\ln<=400/\on<=16
 ·obtain⟨aN,aD,bd,be⟩:=hz;have HC:Hv ((l.count:Int)=1+l.inputs+(sn:Int)+(ln:Int)):=Hd<|by show _=_;have:=R.1;have:=ad.1;unfold aU.count aU.first;omega
  have aM:Hv ((l.first:Int)=1+l.inputs+(sn:Int)):=Hd<|by show _=_;have:=R.1;unfold aU.first;omega
  have bB:((1+l.inputs+(sn:Int)+(ln:Int))==0)=false:=by simp;omega
  have aJ:Hv (0<=1+l.inputs+(sn:Int)+(ln:Int)/\1+l.inputs+(sn:Int)+(ln:Int)<=1048576):=Hd<|⟨by omega,by omega⟩
  have W:=Hd aN;clear aN;go_enter Tryz.func81,Tryz.ntmps81;go_wp2_with fail;refine(ul l SA LA OA sn sc ln lc on oc _ W.1 aD bd be).mono ?_;rintro _ w1 ⟨rfl,b1⟩;have Q:=Hd b1;have aw:=Hd (aF b1 bn.1);obtain⟨-,x1,x2,x3,lx⟩:=bA aw.1;clear b1;go_wp2_with fail;refine(nY OA on oc l.outs _ _ (HN.1.below (aA u.1 Q.1)).ou.ints (by omega) aJ.1).mono ?_;by_cases Z:kN l.outs (1+l.inputs+(sn:Int)+(ln:Int))
  ·rw[bZ Z];have bj:=Hd Z;clear Z;rintro _ w2 ⟨rfl,rfl⟩;go_wp2_with fail;clear x1 x2 x3 lx
   go_loopw[4] (fun i wr=>∃k:Nat,k<=sn/\i=.int .i64 (k:Int)/\Below w1.heap.size w1 wr/\∀j,j<k→kP (l.seqs[j]?.getD Sq.zero).kind (l.seqs[j]?.getD Sq.zero).init (l.seqs[j]?.getD Sq.zero).ins.length/\kN (l.seqs[j]?.getD Sq.zero).ins (1+l.inputs+(sn:Int)+(ln:Int))) (fun i _=>sn-(intOf i).toNat)
   ·exact⟨0,by omega,rfl,Below.refl _ _,fun j hj=>by omega⟩
   obtain⟨k,hk,rfl,hb,I⟩:=hrel;obtain⟨J,B⟩:=hd2 hb I;clear hb I;by_cases aW:k<sn
   ·have bb:=dT (by omega:k<sn);have az:=Hd (HN.1.below (aA (aA u.1 Q.1) J.1));obtain⟨b,o,S,m,p,rfl,a8,c0,c1,c2,r2⟩:=az.1.sq.sq' (k:=k) (by rw[R.1];exact aW);have hm:(l.seqs[k]?.getD Sq.zero).ins.length=m:=r2.ints.1;have ak:=Hd r2;have K:Hv (kP (l.seqs[k]?.getD Sq.zero).kind (l.seqs[k]?.getD Sq.zero).init m/\kN (l.seqs[k]?.getD Sq.zero).ins (1+l.inputs+(sn:Int)+(ln:Int))→∀j,j<k+1→kP (l.seqs[j]?.getD Sq.zero).kind (l.seqs[j]?.getD Sq.zero).init (l.seqs[j]?.getD Sq.zero).ins.length/\kN (l.seqs[j]?.getD Sq.zero).ins (1+l.inputs+(sn:Int)+(ln:Int))):=Hd<|fun h=>fQ B.1 (by rw[hm];exact h)
    have g:Hv (¬(kP (l.seqs[k]?.getD Sq.zero).kind (l.seqs[k]?.getD Sq.zero).init m/\kN (l.seqs[k]?.getD Sq.zero).ins (1+l.inputs+(sn:Int)+(ln:Int)))→¬bJ l):=Hd<|fun h hf=>h (by
     have h1:=hf.seqs k (by rw[R.1];exact aW);rw[hm]at h1
     exact⟨h1.1,by rw[←HC.1];exact h1.2⟩)
    generalize l.seqs[k]?.getD Sq.zero=s at *;obtain⟨i0,i1⟩:=ib (by omega:k<sn);clear r2 hm;have z:=Hd (aB (Below.refl wr.heap.size wr) (.cells #[.int .i64 s.kind,.int .i64 s.init,.slice S m p] 91));obtain⟨y0,y1,y2,ly⟩:=j6 (aG wr (.cells #[.int .i64 s.kind,.int .i64 s.init,.slice S m p] 91));obtain⟨-,x1,lx⟩:=iC (aF J.1 aw.1);by_cases h0:s.kind=0
    ·have q0:(s.kind==0)=true:=by simp[h0]
     have q1:(s.kind==1)=false:=by simp[h0]
     cases hr:inR s.init 0 1 with
     | false =>
      have D:Hv (¬bJ l):=Hd<|g.1 fun h=>by
       rcases h.1 with h|h
       ·rw[aR.2 h.2.1]at hr;cases hr
       omega
      have HR:=Hd hr;clear hr h0;go_wp2_with fail;refine(bV s.init 0 1 _).mono ?_;rw[HR.1];rintro _ w' ⟨rfl,rfl⟩;clear K g;go_wp2;go_ret
      exact⟨bg D.1,aA (aA (aA u.1 Q.1) J.1) z.1⟩
     | true =>
      have HR:=Hd hr;by_cases G:m=1
      ·have d1:((m:Int)==1)=true:=by simp;omega
       have aI:Hv (kP s.kind s.init m) :=Hd<| .inl ⟨h0,aR.1 hr,G⟩
       have a9:m<=4:=by omega
       clear hr h0 G;go_wp2_with fail;refine(bV s.init 0 1 _).mono ?_;rw[HR.1];rintro _ w' ⟨rfl,rfl⟩;go_wp2_with fail;refine(nY S m p s.ins _ _ (ak.1.below z.1).ints (by omega) aJ.1).mono ?_;by_cases q:kN s.ins (1+l.inputs+(sn:Int)+(ln:Int))
       ·rw[bZ q];have ah:=Hd (K.1 ⟨aI.1,q⟩);clear q K g;rintro _ w4 ⟨rfl,rfl⟩;clear y0 y1 y2 ly;go_wp2;go_roundw
        ·exact⟨k+1,by omega,by go_num,aA J.1 z.1,ah.1⟩
        simp[intOf];omega
       rw[dU q];have D:=Hd (g.1 fun h=>q h.2);clear q K g;rintro _ w4 ⟨rfl,rfl⟩;clear y0 y1 y2 ly;go_wp2;go_ret;exact⟨bg D.1,aA (aA (aA u.1 Q.1) J.1) z.1⟩
      have d1:((m:Int)==1)=false:=by simp;omega
      have D:Hv (¬bJ l):=Hd<|g.1 fun h=>by
       rcases h.1 with h|h
       ·exact G h.2.2
       omega
      clear hr h0 G;go_wp2_with fail;refine(bV s.init 0 1 _).mono ?_;rw[HR.1];rintro _ w' ⟨rfl,rfl⟩;clear K g;go_wp2;go_ret;exact⟨bg D.1,aA (aA (aA u.1 Q.1) J.1) z.1⟩
    have q0:(s.kind==0)=false:=by simp[h0]
    by_cases h1:s.kind=1
    ·have q1:(s.kind==1)=true:=by simp[h1]
     cases hr:inR s.init 0 31 with
     | false =>
      have D:Hv (¬bJ l):=Hd<|g.1 fun h=>by
       rcases h.1 with h|h
       ·omega
       rw[aR.2 h.2.1]at hr;cases hr
      have HR:=Hd hr;clear hr h0 h1;go_wp2_with fail;refine(bV s.init 0 31 _).mono ?_;rw[HR.1];rintro _ w' ⟨rfl,rfl⟩;clear K g;go_wp2;go_ret
      exact⟨bg D.1,aA (aA (aA u.1 Q.1) J.1) z.1⟩
     | true =>
      have HR:=Hd hr;by_cases G:m=4
      ·have d1:((m:Int)==4)=true:=by simp;omega
       have aI:Hv (kP s.kind s.init m) :=Hd<| .inr ⟨h1,aR.1 hr,G⟩
       have a9:m<=4:=by omega
       clear hr h0 h1 G;go_wp2_with fail;refine(bV s.init 0 31 _).mono ?_;rw[HR.1];rintro _ w' ⟨rfl,rfl⟩;go_wp2_with fail;refine(nY S m p s.ins _ _ (ak.1.below z.1).ints (by omega) aJ.1).mono ?_;by_cases q:kN s.ins (1+l.inputs+(sn:Int)+(ln:Int))
       ·rw[bZ q];have ah:=Hd (K.1 ⟨aI.1,q⟩);clear q K g;rintro _ w4 ⟨rfl,rfl⟩;clear y0 y1 y2 ly;go_wp2;go_roundw
        ·exact⟨k+1,by omega,by go_num,aA J.1 z.1,ah.1⟩
        simp[intOf];omega
       rw[dU q];have D:=Hd (g.1 fun h=>q h.2);clear q K g;rintro _ w4 ⟨rfl,rfl⟩;clear y0 y1 y2 ly;go_wp2;go_ret;exact⟨bg D.1,aA (aA (aA u.1 Q.1) J.1) z.1⟩
      have d1:((m:Int)==4)=false:=by simp;omega
      have D:Hv (¬bJ l):=Hd<|g.1 fun h=>by
       rcases h.1 with h|h
       ·omega
       exact G h.2.2
      clear hr h0 h1 G;go_wp2_with fail;refine(bV s.init 0 31 _).mono ?_;rw[HR.1];rintro _ w' ⟨rfl,rfl⟩;clear K g;go_wp2;go_ret;exact⟨bg D.1,aA (aA (aA u.1 Q.1) J.1) z.1⟩
    have q1:(s.kind==1)=false:=by simp[h1]
    have D:Hv (¬bJ l):=Hd<|g.1 fun h=>by
     rcases h.1 with h|h
     ·exact h0 h.1
     exact h1 h.1
    clear h0 h1 K g;go_wp2;go_ret;exact⟨bg D.1,aA (aA (aA u.1 Q.1) J.1) z.1⟩
   have bb:=dF (by omega:sn<=k);have ax:k=sn:=by omega
   have bc:Hv (∀j,j<sn→kP (l.seqs[j]?.getD Sq.zero).kind (l.seqs[j]?.getD Sq.zero).init (l.seqs[j]?.getD Sq.zero).ins.length/\kN (l.seqs[j]?.getD Sq.zero).ins (1+l.inputs+(sn:Int)+(ln:Int))):=Hd<|fun j hj=>B.1 j (by omega)
   have ay:=Hd (aF J.1 aw.1);clear B ax;obtain⟨-,x1,lx⟩:=iC ay.1;obtain⟨wo,rfl⟩:∃y,y=wr:=⟨wr,rfl⟩;go_wp2_with fail;clear x1 lx
   go_loopw[6] (fun i wr=>∃k:Nat,k<=ln/\i=.int .i64 (k:Int)/\Below wo.heap.size wo wr/\∀j,j<k→jE (l.luts[j]?.getD Lt.zero).ins.length (l.luts[j]?.getD Lt.zero).mask/\kN (l.luts[j]?.getD Lt.zero).ins (1+l.inputs+(sn:Int)+(j:Int))) (fun i _=>ln-(intOf i).toNat)
   ·exact⟨0,by omega,rfl,Below.refl _ _,fun j hj=>by omega⟩
   obtain⟨k,hk,rfl,hb,I⟩:=hrel;obtain⟨V,B⟩:=hd2 hb I;clear hb I;have bh:=Hd (aF V.1 ay.1);obtain⟨-,-,z2,lz⟩:=j6 bh.1;by_cases ar:k<ln
   ·have aT:=dT (by omega:k<ln);have az:=Hd (HN.1.below (aA (aA (aA u.1 Q.1) J.1) V.1));have aS:=Hd (aF V.1 ay.1);obtain⟨b,o,S,m,p,rfl,a8,c0,c1,r2⟩:=az.1.lt.lut' (k:=k) (by rw[ad.1];exact ar);have hm:(l.luts[k]?.getD Lt.zero).ins.length=m:=r2.ints.1;have ak:=Hd r2;have K:Hv (jE m (l.luts[k]?.getD Lt.zero).mask/\kN (l.luts[k]?.getD Lt.zero).ins (1+l.inputs+(sn:Int)+(k:Int))→∀j,j<k+1→jE (l.luts[j]?.getD Lt.zero).ins.length (l.luts[j]?.getD Lt.zero).mask/\kN (l.luts[j]?.getD Lt.zero).ins (1+l.inputs+(sn:Int)+(j:Int))):=Hd<|fun h=>fQ B.1 (by rw[hm];exact h)
    have g:Hv (¬(jE m (l.luts[k]?.getD Lt.zero).mask/\kN (l.luts[k]?.getD Lt.zero).ins (1+l.inputs+(sn:Int)+(k:Int)))→¬bJ l):=Hd<|fun h hf=>h (by
     have h1:=hf.luts k (by rw[ad.1];exact ar);rw[hm]at h1
     exact⟨⟨h1.1,h1.2.1⟩,by rw[←aM.1];exact h1.2.2⟩)
    generalize l.luts[k]?.getD Lt.zero=s at *;obtain⟨i0,i1⟩:=ib (by omega:k<ln);clear r2 hm;have ai:=Hd (aB (Below.refl wr.heap.size wr) (.cells #[.slice S m p,.int .i64 s.mask] 96));obtain⟨y0,y1,ly⟩:=iC (aG wr (.cells #[.slice S m p,.int .i64 s.mask] 96));have a0:=aF ai.1 aS.1;obtain⟨x0,x1,x2,x3,lx⟩:=bA a0;have bF:wr.heap.size≠w.heap.size:=by have:=aH aS.1;omega
    go_upto_region 14 with fail;generalize wr.alloc (.cells #[.slice S m p,.int .i64 s.mask] 96)=W9 at *;have aP:=Hd (fun(x:Sub W9)=>rP l.inputs SA (some ⟨b,o,none⟩) OA sn sc ln lc on oc x.v W.1.1 (by have:=W.1;omega) (by omega));have bs:=W.1.1;have bu:=W.1.2;clear c0 c1 a0 z2 lz;have Y:=fun(x:Sub W9)=>Dx m s.mask x.v;by_cases U:jE m s.mask
    ·rw[bZ U]at Y;have bE:m<=4:=U.1;have al:=Hd Y;have ae:=fun(x:Sub W9)=>nY S m p s.ins (1+l.inputs+(sn:Int)+(k:Int)) x.v (ak.1.below (aA ai.1 x.h)).ints (by omega) (by omega);have bl:=Hd U;clear U Y;by_cases q:kN s.ins (1+l.inputs+(sn:Int)+(k:Int))
     ·rw[bZ q]at ae;have aC:=Hd ae;have ah:=Hd (K.1 ⟨bl.1,q⟩);clear ae q K g;have H:=dB W9;have ag:=au W9;refine wpB W9 ?_
      repeat(go_big_quiet_step ((first
       | (go_at_call 155;with_reducible exact aV (al.1 _))
       | (go_at_call 156;with_reducible exact aV (aP.1 _))
       | (go_at_call 154;with_reducible exact aX (aC.1 _)))))
      refine wpQuiet_nil ?_;rintro _ ⟨⟨w5,hD⟩,rfl⟩;clear H ag;have HD:=Hd (aA ai.1 hD);clear hD x0 x1 x2 x3 lx y0 y1 ly;go_wp2;go_roundw
      ·exact⟨k+1,by omega,by go_num,aA V.1 HD.1,ah.1⟩
      simp[intOf];omega
     rw[dU q]at ae;have aC:=Hd ae;have D:=Hd (g.1 fun h=>q h.2);clear ae q K g;have H:=dB W9;have ag:=au W9;refine wpB W9 ?_
     repeat(go_big_quiet_step ((first
      | (go_at_call 155;with_reducible exact aV (al.1 _))
      | (go_at_call 156;with_reducible exact aV (aP.1 _))
      | (go_at_call 154;with_reducible exact aX (aC.1 _)))))
     refine wpQuiet_nil ?_;rintro _ ⟨⟨w5,hD⟩,rfl⟩;clear H ag;have HD:=Hd (aA ai.1 hD);clear hD x0 x1 x2 x3 lx y0 y1 ly;go_wp2;go_ret;exact⟨bg D.1,aA (aA (aA (aA u.1 Q.1) J.1) V.1) HD.1⟩
    rw[dU U]at Y;have al:=Hd Y;have D:=Hd (g.1 fun h=>U h.1);clear Y U K g;have H:=dB W9;have ag:=au W9;refine wpB W9 ?_
    repeat(go_big_quiet_step ((first
     | (go_at_call 155;with_reducible exact aV (al.1 _)))))
    refine wpQuiet_nil ?_;rintro _ ⟨⟨w5,hD⟩,rfl⟩;clear H ag;have HD:=Hd (aA ai.1 hD);clear hD x0 x1 x2 x3 lx y0 y1 ly;go_wp2;go_ret;exact⟨bg D.1,aA (aA (aA (aA u.1 Q.1) J.1) V.1) HD.1⟩
   have aT:=dF (by omega:ln<=k);have ax:k=ln:=by omega
   have bp:Hv (∀j,j<ln→jE (l.luts[j]?.getD Lt.zero).ins.length (l.luts[j]?.getD Lt.zero).mask/\kN (l.luts[j]?.getD Lt.zero).ins (1+l.inputs+(sn:Int)+(j:Int))):=Hd<|fun j hj=>B.1 j (by omega)
   have bf:=Hd (aA (aA (aA u.1 Q.1) J.1) V.1);have aQ:Hv (bJ l):=Hd<|⟨W.1,by have:=R.1;omega,by have:=ad.1;omega,by have:=aL.1;omega,by have:=bj.1;rw[←HC.1]at this;exact this,fun i hi=>by have:=bc.1 i (by rw[←R.1];exact hi);rw[←HC.1]at this;exact this,fun i hi=>by have:=bp.1 i (by rw[←ad.1];exact hi);rw[←aM.1]at this;exact⟨this.1.1,this.1.2,this.2⟩⟩
   clear B ax;go_wp2;go_ret;exact⟨mY aQ.1,bf.1⟩
  rw[dU Z];have D:Hv (¬bJ l):=Hd<|fun hf=>Z (by rw[←HC.1];exact hf.outs)
  clear Z;rintro _ w2 ⟨rfl,rfl⟩;go_wp2;go_ret;exact⟨bg D.1,aA u.1 Q.1⟩
 have D:Hv (¬bJ l):=Hd<|fun hf=>hz ⟨hf.inp,by have:=hf.nseq;have:=R.1;omega,by have:=hf.nlut;have:=ad.1;omega,by have:=hf.nout;have:=aL.1;omega⟩
 go_enter Tryz.func81,Tryz.ntmps81;go_wp2_with fail;refine(Dw l SA LA OA sn sc ln lc on oc _ hz).mono ?_;rintro _ w1 ⟨rfl,b1⟩;have Q:=Hd b1;clear b1 hz;go_wp2;go_ret;exact⟨bg D.1,aA u.1 Q.1⟩
theorem yE(l:aU)(SA LA OA:Oh)(sn sc ln lc on oc:Nat)(w:World)(h:fA w l SA LA OA sn sc ln lc on oc)(hf:bJ l) :
  Calls Tryz.prog 240 #[ig l SA LA OA sn sc ln lc on oc] w fun e w'=>∃A,e=.returned (.slice A l.count l.count)/\Own w.heap.size w' A l.count l.count (aK l.count (fw l))/\Below w.heap.size w w':=by
 have bm:=Hd (aB (Below.refl w.heap.size w) (.cells (bX l SA LA OA sn sc ln lc on oc) 41));have bn:=Hd (aG w (.cells (bX l SA LA OA sn sc ln lc on oc) 41));obtain⟨aZ,a4,a0⟩:=h.lens;have h1:=hf.nseq;have h2:=hf.nlut;have h3:=hf.nout;have a7:=Hd hf.inp;have bb:=hf.inp;obtain⟨HN,HF,aC,ay,bx⟩:=hd5 h hf a4 aZ a0;have hC:1+l.inputs+(sn:Int)+(ln:Int)=(l.count:Int):=by unfold aU.count aU.first;omega
 have aP:Hv ((l.first:Int)+(ln:Int)=(l.count:Int)):=Hd<|by show _=_;unfold aU.count;omega
 obtain⟨C,av⟩:∃C,l.count=C:=⟨_,rfl⟩;have aw:=Hd av;rw[av]at hC;have bz:C<=433:=by omega
 have D:sn<=12:=by omega
 have bf:ln<=400:=by omega
 have bg:on<=16:=by omega
 obtain⟨i0,hi,aO,aY,aR⟩:=info_parts iE;have aQ:=fun W=>dQ (P:=Tryz.prog) 26 3 i0 _ Tryz.underlying26 hi aO .i64 .i64 C C (Nat.le_refl _) (by rw[aR];omega) (by omega) W;rw[aY,Nat.mul_one,show(Value.int .i64 0).cells=#[Value.int .i64 0] from rfl,kM]at aQ;have HC:=Hd hC;rw[av];clear h hf aZ a4 a0 h1 h2 h3 av hi aO aY aR hC;go_enter Tryz.func240,Tryz.ntmps240;go_wp2_with fail;refine(ul l SA LA OA sn sc ln lc on oc _ a7.1 D bf bg).mono ?_;rw[HC.1];rintro _ u ⟨rfl,b1⟩;have V:=Hd (aF b1 bn.1);have H:=Hd (aA bm.1 b1);have aL:=(aD.refl u).consOwn (aB (Below.refl _ _) (.cells (arr (List.replicate C 0)) 3)) (Own.arr (n:=C) (aG u _) (Nat.le_refl _) (by unfold maxLen;omega) (by simp))
 have bd:=Hd (show aD u (u.alloc (.cells (arr (List.replicate C 0)) 3)) [.cel (aI (aK C ((l.luts.take 0).flatMap Lt.ins))) (.slice (some ⟨u.heap.size,0,none⟩) C C)] from by
  rw[List.take_zero,List.flatMap_nil,rE]
  exact aL)
 have bc:=Hd (aF aL.bel V.1);clear b1 aL bb;have hx:=bc.1;obtain⟨x0,x1,x2,x3,lx⟩:=bA hx;have bC:w.heap.size≠u.heap.size:=by have:=aH V.1;omega
 clear hx;go_wp2_with fail;clear x0 x1 x2 x3 lx aQ
 go_loopw[4] (fun i wr=>∃k:Nat,k<=ln/\i=.int .i64 (k:Int)/\aD u wr [.cel (aI (aK C ((l.luts.take k).flatMap Lt.ins))) (.slice (some ⟨u.heap.size,0,none⟩) C C)]) (fun i _=>ln-(intOf i).toNat)
 ·exact⟨0,by omega,rfl,bd.1⟩
 obtain⟨k,hk,rfl,hs⟩:=hrel;have B:=Hd hs;obtain⟨-,-,x2,lx⟩:=j6 (aF hs.bel V.1);clear hs;by_cases al:k<ln
 ·have ax:=dT (by omega:k<ln);obtain⟨b,o,S,m,p,hA,ai,c0,c1,r2⟩:=HN.1.lt.lut' (k:=k) (by rw[aC.1];exact al);obtain⟨CI,az⟩:=hd2 c0 r2;have Y:k<l.luts.length:=by rw[aC.1];exact al
  have ap:=Hd (show((l.luts.take k).flatMap Lt.ins)++(l.luts[k]?.getD Lt.zero).ins=(l.luts.take (k+1)).flatMap Lt.ins from by rw[Cj Y])
  have ak:Hv (∀n∈(l.luts[k]?.getD Lt.zero).ins,0<=n/\n<(C:Int)):=Hd<|fun n hn=>by
   have h:=(HF.1.luts k Y).2.2 n hn;have h2:=aw.1;have h3:=aP.1;omega
  have ag:Hv (((l.luts.take k).flatMap Lt.ins).length+(l.luts[k]?.getD Lt.zero).ins.length<=3000):=Hd<|by
   show _<=_;have h1:=congrArg List.length ap.1;rw[List.length_append]at h1;have h2:=jT HF.1 (k+1);have h3:=oU HF.1 (k+1);have h4:=jT HF.1 l.luts.length;rw[List.take_length]at h4
   (try simp only[List.length_append]at h1 ⊢)
   omega
  subst hA;clear r2 Y c0 c1;generalize l.luts[k]?.getD Lt.zero=x at *;generalize (l.luts.take k).flatMap Lt.ins=Z at *;obtain⟨i0,i1⟩:=ib (by omega:k<ln);obtain⟨wo,rfl⟩:∃y,y=wr:=⟨wr,rfl⟩;go_wp2_with fail;clear x2 lx
  go_loopw[5] (fun i wr=>∃j:Nat,j<=m/\i=.int .i64 (j:Int)/\aD u wr [.cel (aI (aK C (mH (Z) (x.ins) j))) (.slice (some ⟨u.heap.size,0,none⟩) C C)]) (fun i _=>m-(intOf i).toNat)
  ·exact⟨0,by omega,rfl,by rw[oV];exact B.1⟩
  obtain⟨j,hj,rfl,hs⟩:=hrel;have B:=Hd hs;have g:=Hd (az.1.ints);have hx:=aF hs.bel V.1;obtain⟨-,-,x2,lx⟩:=j6 hx;have cI:=((aA H.1 hs.bel).cell (p:=⟨b,o+k*2,none⟩) ai).trans CI.1;have a9:=aJ (aA H.1 hs.bel) ai;clear hx;by_cases G:j<m
  ·have am:=dT (by omega:j<m);obtain⟨bt,ot,hA,U,I⟩:=g.1.2 (by omega);have HA:=Hd hA;have aj:=((aA H.1 hs.bel).cell (p:=⟨bt,ot+j,none⟩) U).trans (I j G);have aW:=aJ (aA H.1 hs.bel) U;have z:j<(x.ins).length:=by rw[g.1.1];exact G
   have R:=ak.1 _ (List.getElem_mem z);have D:=og (bs:=Z) z;rw[List.getElem?_eq_getElem z,Option.getD_some]at aj D;have Q:=qx (Z) (x.ins) j;have J:=ag.1;have ae:=g.1.1;generalize (x.ins)[j]=x at *;obtain⟨X,rfl⟩:=Int.eq_ofNat_of_zero_le R.1;have ar:X<C:=by omega
   obtain⟨cX,fX,lX,hN⟩:=qy hs ar;rw[D]at hN;have ah:=j5 (mH (Z) (x.ins) j) (X:Int);have ao:=Hd hN;clear hN D I hs;generalize cnt (mH (Z) (x.ins) j) (X:Int)=q at *;have hq:q<=10000:=by omega
   have aX:j<=10000:=by omega
   clear ah Q J ae z R;obtain⟨i0,i1⟩:=ib (by omega:j<m);obtain⟨i2,i3⟩:=ib (by omega:X<C);subst hA;go_wp2;go_roundw
   ·exact⟨j+1,by omega,by go_num,ao.1⟩
   simp[intOf];omega
  have K:j=m:=by omega
  have am:=dF (by omega:m<=j);have HD:=Hd (show aD u wr [.cel (aI (aK C ((Z)++(x.ins)))) (.slice (some ⟨u.heap.size,0,none⟩) C C)] from by rw[←oZ g.1.1,←K];exact hs);clear hs g B K;have aE:=Hd (show aD u wr [.cel (aI (aK C ((l.luts.take (k+1)).flatMap Lt.ins))) (.slice (some ⟨u.heap.size,0,none⟩) C C)] from by rw[←ap.1];exact HD.1);go_wp2;go_roundw
  ·exact⟨k+1,by omega,by go_num,aE.1⟩
  simp[intOf];omega
 have af:k=ln:=by omega
 have ax:=dF (by omega:ln<=k)
 have a6:=Hd (show aD u wr [.cel (aI (aK C (l.luts.flatMap Lt.ins++(l.seqs.take 0).flatMap Sq.ins))) (.slice (some ⟨u.heap.size,0,none⟩) C C)] from by
  have h:=B.1;rw[af,←aC.1,List.take_length]at h
  simpa using h)
 clear af B;obtain⟨wo,rfl⟩:∃y,y=wr:=⟨wr,rfl⟩;go_wp2_with fail;clear x2 lx
 go_loopw[6] (fun i wr=>∃k:Nat,k<=sn/\i=.int .i64 (k:Int)/\aD u wr [.cel (aI (aK C (l.luts.flatMap Lt.ins++(l.seqs.take k).flatMap Sq.ins))) (.slice (some ⟨u.heap.size,0,none⟩) C C)]) (fun i _=>sn-(intOf i).toNat)
 ·exact⟨0,by omega,rfl,a6.1⟩
 obtain⟨k,hk,rfl,hs⟩:=hrel;have B:=Hd hs;obtain⟨-,x1,lx⟩:=iC (aF hs.bel V.1);clear hs;by_cases al:k<sn
 ·have ax:=dT (by omega:k<sn);obtain⟨b,o,S,m,p,hA,ai,c0,c1,c2,r2⟩:=HN.1.sq.sq' (k:=k) (by rw[ay.1];exact al);obtain⟨CI,az⟩:=hd2 c2 r2;have Y:k<l.seqs.length:=by rw[ay.1];exact al
  have ap:=Hd (show(l.luts.flatMap Lt.ins++(l.seqs.take k).flatMap Sq.ins)++(l.seqs[k]?.getD Sq.zero).ins=l.luts.flatMap Lt.ins++(l.seqs.take (k+1)).flatMap Sq.ins from by rw[List.append_assoc,vW Y])
  have ak:Hv (∀n∈(l.seqs[k]?.getD Sq.zero).ins,0<=n/\n<(C:Int)):=Hd<|fun n hn=>by
   have h:=(HF.1.seqs k Y).2 n hn;have h2:=aw.1;have h3:=aP.1;omega
  have ag:Hv ((l.luts.flatMap Lt.ins++(l.seqs.take k).flatMap Sq.ins).length+(l.seqs[k]?.getD Sq.zero).ins.length<=3000):=Hd<|by
   show _<=_;have h1:=congrArg List.length ap.1;rw[List.length_append]at h1;have h2:=jT HF.1 (k+1);have h3:=oU HF.1 (k+1);have h4:=jT HF.1 l.luts.length;rw[List.take_length]at h4
   (try simp only[List.length_append]at h1 ⊢)
   omega
  subst hA;clear r2 Y c0 c1 c2;generalize l.seqs[k]?.getD Sq.zero=x at *;generalize l.luts.flatMap Lt.ins++(l.seqs.take k).flatMap Sq.ins=Z at *;obtain⟨i0,i1⟩:=ib (by omega:k<sn);obtain⟨wo,rfl⟩:∃y,y=wr:=⟨wr,rfl⟩;go_wp2_with fail;clear x1 lx
  go_loopw[7] (fun i wr=>∃j:Nat,j<=m/\i=.int .i64 (j:Int)/\aD u wr [.cel (aI (aK C (mH (Z) (x.ins) j))) (.slice (some ⟨u.heap.size,0,none⟩) C C)]) (fun i _=>m-(intOf i).toNat)
  ·exact⟨0,by omega,rfl,by rw[oV];exact B.1⟩
  obtain⟨j,hj,rfl,hs⟩:=hrel;have B:=Hd hs;have g:=Hd (az.1.ints);have hx:=aF hs.bel V.1;obtain⟨-,x1,lx⟩:=iC hx;have cI:=((aA H.1 hs.bel).cell (p:=⟨b,o+k*3+2,none⟩) ai).trans CI.1;have a9:=aJ (aA H.1 hs.bel) ai;clear hx;by_cases G:j<m
  ·have am:=dT (by omega:j<m);obtain⟨bt,ot,hA,U,I⟩:=g.1.2 (by omega);have HA:=Hd hA;have aj:=((aA H.1 hs.bel).cell (p:=⟨bt,ot+j,none⟩) U).trans (I j G);have aW:=aJ (aA H.1 hs.bel) U;have z:j<(x.ins).length:=by rw[g.1.1];exact G
   have R:=ak.1 _ (List.getElem_mem z);have D:=og (bs:=Z) z;rw[List.getElem?_eq_getElem z,Option.getD_some]at aj D;have Q:=qx (Z) (x.ins) j;have J:=ag.1;have ae:=g.1.1;generalize (x.ins)[j]=x at *;obtain⟨X,rfl⟩:=Int.eq_ofNat_of_zero_le R.1;have ar:X<C:=by omega
   obtain⟨cX,fX,lX,hN⟩:=qy hs ar;rw[D]at hN;have ah:=j5 (mH (Z) (x.ins) j) (X:Int);have ao:=Hd hN;clear hN D I hs;generalize cnt (mH (Z) (x.ins) j) (X:Int)=q at *;have hq:q<=10000:=by omega
   have aX:j<=10000:=by omega
   clear ah Q J ae z R;obtain⟨i0,i1⟩:=ib (by omega:j<m);obtain⟨i2,i3⟩:=ib (by omega:X<C);subst hA;go_wp2;go_roundw
   ·exact⟨j+1,by omega,by go_num,ao.1⟩
   simp[intOf];omega
  have K:j=m:=by omega
  have am:=dF (by omega:m<=j);have HD:=Hd (show aD u wr [.cel (aI (aK C ((Z)++(x.ins)))) (.slice (some ⟨u.heap.size,0,none⟩) C C)] from by rw[←oZ g.1.1,←K];exact hs);clear hs g B K;have aE:=Hd (show aD u wr [.cel (aI (aK C (l.luts.flatMap Lt.ins++(l.seqs.take (k+1)).flatMap Sq.ins))) (.slice (some ⟨u.heap.size,0,none⟩) C C)] from by rw[←ap.1];exact HD.1);go_wp2;go_roundw
  ·exact⟨k+1,by omega,by go_num,aE.1⟩
  simp[intOf];omega
 have af:k=sn:=by omega
 have ax:=dF (by omega:sn<=k)
 have bj:=Hd (show aD u wr [.cel (aI (aK C (l.luts.flatMap Lt.ins++l.seqs.flatMap Sq.ins))) (.slice (some ⟨u.heap.size,0,none⟩) C C)] from by
  have h:=B.1
  rwa[af,←ay.1,List.take_length]at h)
 have ak:Hv (∀n∈l.outs,0<=n/\n<(C:Int)):=Hd<|fun n hn=>by
  have h:=HF.1.outs n hn;have h2:=aw.1;omega
 have ag:Hv ((l.luts.flatMap Lt.ins++l.seqs.flatMap Sq.ins).length+l.outs.length<=3000):=Hd<|by
  show _<=_;have h3:=oU HF.1 l.seqs.length;have h4:=jT HF.1 l.luts.length;rw[List.take_length]at h3 h4;have h5:=HF.1.nout;rw[List.length_append];omega
 clear af B;obtain⟨wo,rfl⟩:∃y,y=wr:=⟨wr,rfl⟩;go_wp2_with fail;clear x1 lx
 go_loopw[8] (fun i wr=>∃j:Nat,j<=on/\i=.int .i64 (j:Int)/\aD u wr [.cel (aI (aK C (mH (l.luts.flatMap Lt.ins++l.seqs.flatMap Sq.ins) (l.outs) j))) (.slice (some ⟨u.heap.size,0,none⟩) C C)]) (fun i _=>on-(intOf i).toNat)
 ·exact⟨0,by omega,rfl,by rw[oV];exact bj.1⟩
 obtain⟨j,hj,rfl,hs⟩:=hrel;have B:=Hd hs;have g:=Hd (HN.1.ou.ints);obtain⟨-,-,-,x3,lx⟩:=bA (aF hs.bel V.1);by_cases G:j<on
 ·have am:=dT (by omega:j<on);obtain⟨bt,ot,hA,U,I⟩:=g.1.2 (by omega);have HA:=Hd hA;have aj:=((aA H.1 hs.bel).cell (p:=⟨bt,ot+j,none⟩) U).trans (I j G);have aW:=aJ (aA H.1 hs.bel) U;have z:j<(l.outs).length:=by rw[g.1.1];exact G
  have R:=ak.1 _ (List.getElem_mem z);have D:=og (bs:=l.luts.flatMap Lt.ins++l.seqs.flatMap Sq.ins) z;rw[List.getElem?_eq_getElem z,Option.getD_some]at aj D;have Q:=qx (l.luts.flatMap Lt.ins++l.seqs.flatMap Sq.ins) (l.outs) j;have J:=ag.1;have ae:=g.1.1;generalize (l.outs)[j]=x at *;obtain⟨X,rfl⟩:=Int.eq_ofNat_of_zero_le R.1;have ar:X<C:=by omega
  obtain⟨cX,fX,lX,hN⟩:=qy hs ar;rw[D]at hN;have ah:=j5 (mH (l.luts.flatMap Lt.ins++l.seqs.flatMap Sq.ins) (l.outs) j) (X:Int);have ao:=Hd hN;clear hN D I hs;generalize cnt (mH (l.luts.flatMap Lt.ins++l.seqs.flatMap Sq.ins) (l.outs) j) (X:Int)=q at *;have hq:q<=10000:=by omega
  have aX:j<=10000:=by omega
  clear ah Q J ae z R;obtain⟨i0,i1⟩:=ib (by omega:j<on);obtain⟨i2,i3⟩:=ib (by omega:X<C);subst hA;go_wp2;go_roundw
  ·exact⟨j+1,by omega,by go_num,ao.1⟩
  simp[intOf];omega
 have K:j=on:=by omega
 have am:=dF (by omega:on<=j);have HD:=Hd (show aD u wr [.cel (aI (aK C ((l.luts.flatMap Lt.ins++l.seqs.flatMap Sq.ins)++(l.outs)))) (.slice (some ⟨u.heap.size,0,none⟩) C C)] from by rw[←oZ g.1.1,←K];exact hs);clear hs g B K;go_wp2;go_ret;exact⟨_,rfl,(HD.1.owned 0 rfl).more (by have:=H.1.size;omega),aA H.1 HD.1.bel⟩
theorem rQ(l:aU)(SA LA OA:Oh)(sn sc ln lc on oc:Nat)(a b:Int)(w:World)(h:fA w l SA LA OA sn sc ln lc on oc)(hf:bJ l)(he:eB l ⟨a,b⟩) :
  Calls Tryz.prog 204 #[ig l SA LA OA sn sc ln lc on oc,.agg #[.int .i64 a,.int .i64 b]] w fun e w'=>e=.returned (.int .i64 (dM l ⟨a,b⟩))/\Below w.heap.size w w':=by
 have g:dM l ⟨a,b⟩=if 0<=b then 1+l.inputs+b else(l.first:Int)+a:=rfl
 obtain⟨e1,e2,e3,_⟩:=oh.1 he;have z:=h.lens.1;have u:=h.lens.2.1;rw[z]at e2;rw[u]at e1;clear z u;have I:=Hd (aB (aB (Below.refl w.heap.size w) (.cells (bX l SA LA OA sn sc ln lc on oc) 41)) (.cells #[.int .i64 a,.int .i64 b] 94));have hx:=dP (.cells #[.int .i64 a,.int .i64 b] 94) (aG w (.cells (bX l SA LA OA sn sc ln lc on oc) 41));have Z:=aG (w.alloc (.cells (bX l SA LA OA sn sc ln lc on oc) 41)) (.cells #[.int .i64 a,.int .i64 b] 94);simp only[World.size_alloc]at Z;obtain⟨q,j⟩:=hd2 hx Z;clear hx Z;obtain⟨D,B,G⟩:=h.lens;have R:=hf.nseq;have V:=hf.nlut;have W:=hf.nout;have Y:=hf.inp;rw[D]at R;rw[B]at V;rw[G]at W;obtain⟨HN,HF,aq,am,ao⟩:=hd5 h hf D B G;have U:Hv ((l.first:Int)=1+l.inputs+(sn:Int)):=Hd<|by show _=_;unfold aU.first;omega
 have al:Hv ((l.count:Int)=1+l.inputs+(sn:Int)+(ln:Int)):=Hd<|by show _=_;unfold aU.count aU.first;omega
 clear h hf D B G;by_cases h0:0<=b
 ·have d0:decide (b≥0)=true:=decide_eq_true h0;rw[if_pos h0]at g;have H:=Hd g;clear g e1 e3;go_enter Tryz.func204,Tryz.ntmps204;go_upto_region 1 with fail;generalize (w.alloc (.cells (bX l SA LA OA sn sc ln lc on oc) 41)).alloc (.cells #[.int .i64 a,.int .i64 b] 94)=J at *;have x0:=aC (k:=0) q.1 rfl;have y1:=aC (k:=1) j.1 rfl;have lx:=aH q.1;have ly:=aH j.1;go_wp2;go_ret;exact⟨aQ H.1.symm,I.1⟩
 have d0:decide (b≥0)=false:=decide_eq_false h0;rw[if_neg h0,U.1]at g;have H:=Hd g;have ha:0<=a:=by omega
 clear g e2 e3 h0;go_enter Tryz.func204,Tryz.ntmps204;go_upto_region 1 with fail;generalize (w.alloc (.cells (bX l SA LA OA sn sc ln lc on oc) 41)).alloc (.cells #[.int .i64 a,.int .i64 b] 94)=J at *;obtain⟨x0,x1,x2,x3⟩:=cs4 q.1;obtain⟨y0,y1⟩:=cs2 j.1;have lx:=aH q.1;have ly:=aH j.1;go_upto_region 3 with fail;have Q:=Hd (fun(x:Sub J)=>rP l.inputs SA LA OA sn sc ln lc on oc x.v Y.1 (by omega) (by omega));have K:=dB J;have ad:=au J;refine wpB J ?_
 repeat(go_big_quiet_step ((first
  | (go_at_call 156;with_reducible exact aV (Q.1 _)))))
 refine wpQuiet_nil ?_;rintro _ ⟨⟨w5,hD⟩,rfl⟩;clear K ad;have HD:=Hd (aA I.1 hD);clear x0 x1 x2 x3 y0 y1 lx ly hD;go_wp2;go_ret;exact⟨aQ H.1.symm,HD.1⟩
theorem rT(XA ZA:Oh)(xn xc zn zc:Nat)(xs V:List Int)(w:World)(hx:bT w XA xn xs)(hz:bT w ZA zn V)(aM:xn<=1048576)(aT:zn<=1048576) :
  Calls Tryz.prog 242 #[.slice XA xn xc,.slice ZA zn zc] w fun e w'=>∃A n c,e=.returned (.slice A n c)/\Own w.heap.size w' A n c (asc (xs.filter fun x=>decide (0<x/\x∉V)))/\Below w.heap.size w w':=by
 obtain⟨HX,HZ⟩:=hd2 hx hz;clear hx hz;go_enter Tryz.func242,Tryz.ntmps242;go_wp2_with fail;refine(qG XA xn xc xs _ HX.1 aM).mono ?_;rintro _ w1 ⟨YA,yc,rfl,⟨ys,Y,ah,aj⟩,b1⟩;obtain⟨aO,aP,aE,am⟩:=hd4 ah aj b1 Y.ints;obtain⟨n,rfl⟩:∃n,n=xn:=⟨xn,rfl⟩;clear ah aj Y b1;go_wp2
 go_loopw[6,7] (fun v i wr=>∃(k:Nat) (A:Oh) (m c:Nat),k<=n/\i=.int .i64 (k:Int)/\v=.slice A m c/\m<=k/\aD w1 wr [.cel (aI (pI V ys k)) (.slice A m c)]) (fun _ i _=>n-(intOf i).toNat)
 ·exact⟨0,_,_,_,by omega,rfl,rfl,by omega,(aD.refl w1).pushNew 3 1⟩
 obtain⟨k,A1,n1,c1,hk,rfl,rfl,a4,hs⟩:=hrel;have R:=Hd hs;have av:=Hd (aA aE.1 hs.bel);clear hs;by_cases az:k<n
 ·have aL:=dT (by omega:k<n);have aS:k<ys.length:=by rw[am.1.1];exact az
  obtain⟨K,Y,ay,aB,ax⟩:=am.1.2 (by omega);have aQ:=Hd ay;have W:=(R.1.bel.cell (p:=⟨K,Y+k,none⟩) aB).trans (ax k az);have j:=aJ R.1.bel aB;have g:pI V ys (k+1)=BX V (pI V ys k) (ys[k]?.getD 0):=rfl;have aR:=(R.1.ints 0 rfl).1;clear ax aS ay;obtain rfl:=aQ.1;generalize pI V ys k=out at *;generalize ys[k]?.getD 0=x at *;obtain⟨i0,i1⟩:=ib (by omega:k<n);unfold BX at g;by_cases z:0<x
  ·have dx:decide ((0:Int)<x)=true:=decide_eq_true z;have Q:=fun(v:Sub wr)=>sD ZA zn zc V x v.v ((HZ.1.below (aA av.1 v.h))) aT;by_cases G:x∈V
   ·rw[if_neg (fun h=>h.2.1 G)]at g;have Z:=Hd g;rw[decide_eq_true G]at Q;have U:=Hd Q;clear Q g z G;go_upto_region 6 with fail;have q:=dB wr;have B:=au wr;refine wpB wr ?_
    repeat(go_big_quiet_step ((first|(go_at_call 208;with_reducible exact aX (U.1 _)))))
    refine wpQuiet_nil ?_;rintro wq ⟨⟨w5,u⟩,H⟩;replace H:wq=w5:=H;subst H;clear q B;have af:=(u.cell (p:=⟨K,Y+k,none⟩) j).trans W;have J:=aJ u j;have D:=Hd (R.1.below u);clear u W j;go_wp2;go_roundw
    ·exact⟨k+1,A1,n1,c1,by omega,by go_num,rfl,by omega,by rw[Z.1];exact D.1⟩
    simp[intOf];omega
   rw[decide_eq_false G]at Q;have U:=Hd Q;clear Q;by_cases aU:n1=0
   ·have d0:((n1:Int)==0)=true:=by simp;omega
    have ai:out=[]:=List.eq_nil_of_length_eq_zero (by omega);rw[if_pos ⟨z,G,by rw[ai];simp⟩]at g;have Z:=Hd g;clear g z G ai aU;go_upto_region 6 with fail;have q:=dB wr;have B:=au wr;refine wpB wr ?_
    repeat(go_big_quiet_step ((first|(go_at_call 208;with_reducible exact aX (U.1 _)))))
    refine wpQuiet_nil ?_;rintro wq ⟨⟨w5,u⟩,H⟩;replace H:wq=w5:=H;subst H;clear q B;have af:=(u.cell (p:=⟨K,Y+k,none⟩) j).trans W;have J:=aJ u j;have D:=Hd (R.1.below u);clear u W j d0
    go_wp2_with (at_builtin;refine bP rfl _ _ rfl _ (D.1.alloc _) 0 _ n1 c1 out x _ (0,0) rfl rfl rfl (aG _ _) (by omega) ?_;intro g9 cap w9 S9 al;have ak:=Hd S9;clear S9 al)
    go_roundw
    ·exact⟨k+1,some ⟨g9,0,none⟩,n1+1,cap,by omega,by go_num,rfl,by omega,by rw[Z.1];exact ak.1⟩
    simp[intOf];omega
   have d0:((n1:Int)==0)=false:=by simp;omega
   obtain⟨bo,oo,ap,aC,aw⟩:=(R.1.ints 0 rfl).2 (by omega);have aH:=Hd ap;have co:=aw (n1-1) (by omega);clear aw ap;obtain rfl:=aH.1;have I:out.getLast?=some (out[n1-1]?.getD 0):=by rw[List.getLast?_eq_getElem?,aR,List.getElem?_eq_getElem (by omega)];rfl
   generalize out[n1-1]?.getD 0=y at *;have in1:(0:Int)<=(n1:Int)-1:=by omega
   have in2:(n1:Int)-1<(n1:Int):=by omega
   have in3:((n1:Int)-1).toNat=n1-1:=by omega
   have e3:IntKind.i64.wrap ((n1:Int)-1)=(n1:Int)-1:=IntWalk.i64_in _ (by omega);by_cases ag:y=x
   ·subst ag;rw[if_neg (fun h=>h.2.2 I)]at g;have Z:=Hd g;clear g z G I;go_upto_region 6 with fail;have q:=dB wr;have B:=au wr;refine wpB wr ?_
    repeat(go_big_quiet_step ((first|(go_at_call 208;with_reducible exact aX (U.1 _)))))
    refine wpQuiet_nil ?_;rintro wq ⟨⟨w5,u⟩,H⟩;replace H:wq=w5:=H;subst H;clear q B;have af:=(u.cell (p:=⟨K,Y+k,none⟩) j).trans W;have J:=aJ u j;have D:=Hd (R.1.below u);clear u W j co aC in1 in2 in3 e3;go_wp2;go_roundw
    ·exact⟨k+1,_,n1,c1,by omega,by go_num,rfl,by omega,by rw[Z.1];exact D.1⟩
    simp[intOf];omega
   have dy:(y != x)=true:=by simp[ag]
   rw[if_pos ⟨z,G,by rw[I];intro h;injection h with h;exact ag h⟩]at g;have Z:=Hd g;clear g z G I ag;go_upto_region 6 with fail;have q:=dB wr;have B:=au wr;refine wpB wr ?_
   repeat(go_big_quiet_step ((first|(go_at_call 208;with_reducible exact aX (U.1 _)))))
   refine wpQuiet_nil ?_;rintro wq ⟨⟨w5,u⟩,H⟩;replace H:wq=w5:=H;subst H;clear q B;have af:=(u.cell (p:=⟨K,Y+k,none⟩) j).trans W;have J:=aJ u j;have D:=Hd (R.1.below u);clear u W j co aC in1 in2 in3 e3
   go_wp2_with (at_builtin;refine bP rfl _ _ rfl _ (D.1.alloc _) 0 _ n1 c1 out x _ (0,0) rfl rfl rfl (aG _ _) (by omega) ?_;intro g9 cap w9 S9 al;have ak:=Hd S9;clear S9 al)
   go_roundw
   ·exact⟨k+1,some ⟨g9,0,none⟩,n1+1,cap,by omega,by go_num,rfl,by omega,by rw[Z.1];exact ak.1⟩
   simp[intOf];omega
  have dx:decide ((0:Int)<x)=false:=decide_eq_false z;rw[if_neg (fun h=>z h.1)]at g;have Z:=Hd g;clear g z;go_upto_region 6 with fail;have q:=dB wr;have B:=au wr;refine wpB wr ?_
  repeat(go_big_quiet_step ((fail)))
  refine wpQuiet_nil ?_;rintro wq ⟨⟨w5,u⟩,H⟩;replace H:wq=w5:=H;subst H;clear q B;have af:=(u.cell (p:=⟨K,Y+k,none⟩) j).trans W;have J:=aJ u j;have D:=Hd (R.1.below u);clear u W j;go_wp2;go_roundw
  ·exact⟨k+1,A1,n1,c1,by omega,by go_num,rfl,by omega,by rw[Z.1];exact D.1⟩
  simp[intOf];omega
 have aq:k=n:=by omega
 have aL:=dF (by omega:n<=k)
 have HD:Hv (Own w.heap.size wr A1 n1 c1 (asc (xs.filter fun x=>decide (0<x/\x∉V)))):=Hd<|by
  have h:=(R.1.owned 0 rfl).more aE.1.size;rw[aq,←am.1.1,IU aP.1 aO.1]at h;exact h
 clear R aq;go_wp2;go_ret;exact⟨_,_,_,rfl,HD.1,av.1⟩
theorem vN(l:aU)(SA LA OA:Oh)(sn sc ln lc on oc:Nat)(a b:Int)(w:World)(h:fA w l SA LA OA sn sc ln lc on oc)(hf:bJ l)(he:eB l ⟨a,b⟩) :
  Calls Tryz.prog 241 #[ig l SA LA OA sn sc ln lc on oc,.agg #[.int .i64 a,.int .i64 b]] w fun e w'=>∃A n c,e=.returned (.slice A n c)/\Own w.heap.size w' A n c (fD l ⟨a,b⟩)/\Below w.heap.size w w':=by
 have hk:=IV (l:=l) (e:=⟨a,b⟩) fun x hx=>((qU hf he).2 x hx).1;have W:qY l ⟨a,b⟩=if 0<=a then(l.luts[a.toNat]?.getD Lt.zero).ins else(l.seqs[b.toNat]?.getD Sq.zero).ins:=rfl
 obtain⟨e1,e2,e3,_⟩:=oh.1 he;have q:=(qU hf he).1;rw[W]at q hk;have j:=hk.symm;clear hk W;have g:=Hd (aB (aB (Below.refl w.heap.size w) (.cells (bX l SA LA OA sn sc ln lc on oc) 41)) (.cells #[.int .i64 a,.int .i64 b] 94));have hx:=dP (.cells #[.int .i64 a,.int .i64 b] 94) (aG w (.cells (bX l SA LA OA sn sc ln lc on oc) 41));have hy:=aG (w.alloc (.cells (bX l SA LA OA sn sc ln lc on oc) 41)) (.cells #[.int .i64 a,.int .i64 b] 94);simp only[World.size_alloc]at hy;obtain⟨z,B⟩:=hd2 hx hy;clear hx hy;obtain⟨G,R,H⟩:=h.lens;have ao:=hf.nseq;have ai:=hf.nlut;have aj:=hf.nout;have av:=hf.inp;rw[G]at ao;rw[R]at ai;rw[H]at aj;obtain⟨HN,HF,V,Z,aq⟩:=hd5 h hf G R H;have au:Hv ((l.first:Int)=1+l.inputs+(sn:Int)):=Hd<|by show _=_;unfold aU.first;omega
 have aw:Hv ((l.count:Int)=1+l.inputs+(sn:Int)+(ln:Int)):=Hd<|by show _=_;unfold aU.count aU.first;omega
 clear h hf G R H;by_cases h0:0<=a
 ·have d0:decide (a≥0)=true:=decide_eq_true h0;rw[if_pos h0]at j q;obtain⟨X,rfl⟩:∃X:Nat,a=(X:Int):=⟨a.toNat,by omega⟩;rw[Int.toNat_natCast]at j q;have hX:X<ln:=by have:=Z.1;omega
  obtain⟨bb,Y,S,m,p,rfl,u,c0,c1,I⟩:=HN.1.lt.lut' (k:=X) (by rw[Z.1];exact hX);have ak:=aJ g.1 u;rw[←g.1.cell (p:=⟨bb,Y+X*2,none⟩) u]at c0;have D:=Hd I.ints;rw[I.ints.1]at q;have K:=Hd j;clear c1 I j e1 e2 e3 he;generalize (l.luts[X]?.getD Lt.zero).ins=src at *;go_enter Tryz.func241,Tryz.ntmps241;go_upto_region 1 with fail;generalize (w.alloc (.cells (bX l SA (some ⟨bb,Y,none⟩) OA sn sc ln lc on oc) 41)).alloc (.cells #[.int .i64 (X:Int),.int .i64 b] 94)=W9 at *;have x2:=aC (k:=2) z.1 rfl;have y0:=aC (k:=0) B.1 rfl;have lx:=aH z.1;have ly:=aH B.1;go_wp2_with fail;clear x2 y0 lx ly c0;refine(rT S _ m p 0 0 src [] _ (D.1.below (aB (aA g.1 (Below.refl _ _)) _)) ⟨rfl,fun h=>by omega⟩ (by omega) (by omega)).mono ?_;rintro _ w1 ⟨A1,n1,c1,rfl,U,b1⟩;have J:=Hd (show Own w.heap.size w1 A1 n1 c1 _ from U.more (Nat.le_trans g.1.size (by simp)));have Q:=Hd (aA (aB g.1 _) b1);clear U b1;go_wp2;go_ret;exact⟨_,_,_,rfl,by rw[K.1];exact J.1,Q.1⟩
 have d0:decide (a≥0)=false:=decide_eq_false h0;rw[if_neg h0]at j q;obtain⟨X,rfl⟩:∃X:Nat,b=(X:Int):=⟨b.toNat,by omega⟩;rw[Int.toNat_natCast]at j q;have hX:X<sn:=by have:=V.1;omega
 obtain⟨bb,Y,S,m,p,rfl,u,c0,c1,c2,I⟩:=HN.1.sq.sq' (k:=X) (by rw[V.1];exact hX);have ak:=aJ g.1 u;rw[←g.1.cell (p:=⟨bb,Y+X*3+2,none⟩) u]at c2;have D:=Hd I.ints;rw[I.ints.1]at q;have K:=Hd j;clear c0 c1 I j e1 e2 e3 he;generalize (l.seqs[X]?.getD Sq.zero).ins=src at *;go_enter Tryz.func241,Tryz.ntmps241;go_upto_region 1 with fail;generalize (w.alloc (.cells (bX l (some ⟨bb,Y,none⟩) LA OA sn sc ln lc on oc) 41)).alloc (.cells #[.int .i64 a,.int .i64 (X:Int)] 94)=W9 at *;have x1:=aC (k:=1) z.1 rfl;obtain⟨y0,y1⟩:=cs2 B.1;have lx:=aH z.1;have ly:=aH B.1;go_wp2_with fail;clear x1 y0 y1 lx ly c2;refine(rT S _ m p 0 0 src [] _ (D.1.below (aB (aA g.1 (Below.refl _ _)) _)) ⟨rfl,fun h=>by omega⟩ (by omega) (by omega)).mono ?_;rintro _ w1 ⟨A1,n1,c1,rfl,U,b1⟩;have J:=Hd (show Own w.heap.size w1 A1 n1 c1 _ from U.more (Nat.le_trans g.1.size (by simp)));have Q:=Hd (aA (aB g.1 _) b1);clear U b1;go_wp2;go_ret;exact⟨_,_,_,rfl,by rw[K.1];exact J.1,Q.1⟩
theorem KM(l:aU)(SA LA OA:Oh)(sn sc ln lc on oc:Nat)(a b:Int)(w:World)(h:fA w l SA LA OA sn sc ln lc on oc)(hf:bJ l)(I:eB l ⟨a,b⟩) :
  Calls Tryz.prog 254 #[ig l SA LA OA sn sc ln lc on oc,.agg #[.int .i64 a,.int .i64 b]] w fun e w'=>e=.returned (.bool true)/\Below w.heap.size w w':=by
 have g:=Hd I;clear I;have z:=oh (l:=l) (a:=a) (b:=b);have J:=h.lens.1;have R:=h.lens.2.1;rw[J,R]at z;clear J R;have j:=Hd (aB (aB (Below.refl w.heap.size w) (.cells (bX l SA LA OA sn sc ln lc on oc) 41)) (.cells #[.int .i64 a,.int .i64 b] 94));have hx:=dP (.cells #[.int .i64 a,.int .i64 b] 94) (aG w (.cells (bX l SA LA OA sn sc ln lc on oc) 41));have hy:=aG (w.alloc (.cells (bX l SA LA OA sn sc ln lc on oc) 41)) (.cells #[.int .i64 a,.int .i64 b] 94);simp only[World.size_alloc]at hy;obtain⟨q,u⟩:=hd2 hx hy;clear hx hy;obtain⟨Z,ag,ad⟩:=h.lens;have a4:=hf.nseq;have aX:=hf.nlut;have aY:=hf.nout;have aN:=hf.inp;rw[Z]at a4;rw[ag]at aX;rw[ad]at aY;obtain⟨HN,HF,aw,bt,bm⟩:=hd5 h hf Z ag ad;have ap:Hv ((l.first:Int)=1+l.inputs+(sn:Int)):=Hd<|by show _=_;unfold aU.first;omega
 have aq:Hv ((l.count:Int)=1+l.inputs+(sn:Int)+(ln:Int)):=Hd<|by show _=_;unfold aU.count aU.first;omega
 clear h hf Z ag ad
 cases D:inR a (-1) ((ln:Int)-1)with
 | false =>
  have B:Hv (¬eB l ⟨a,b⟩):=Hd<|fun h=>by
   have h2:=(z.1 h).1;rw[aR.2 ⟨h2.1,by omega⟩]at D
   cases D
  exact absurd g.1 B.1
 | true =>
  have ha:=aR.1 D;have H1:=Hd D;clear D
  cases G:inR b (-1) ((sn:Int)-1)with
  | false =>
   have B:Hv (¬eB l ⟨a,b⟩):=Hd<|fun h=>by
    have h2:=(z.1 h).2.1;rw[aR.2 ⟨h2.1,by omega⟩]at G
    cases G
   exact absurd g.1 B.1
  | true =>
   have hb:=aR.1 G;have H2:=Hd G;clear G;by_cases hn:a=-1/\b=-1
   ·have B:Hv (¬eB l ⟨a,b⟩):=Hd<|fun h=>(z.1 h).2.2.1 hn
    exact absurd g.1 B.1
   have ah:True:=trivial;have ae:decide (a<0)=false∨decide (a<0)=true/\decide (b<0)=false:=by simp;omega
   by_cases W:0<=b
   ·have d1:decide (b≥0)=true:=decide_eq_true W;have db:decide (b<0)=false:=by simp;omega
    obtain⟨F,rfl⟩:∃F:Nat,b=(F:Int):=⟨b.toNat,by omega⟩;rw[Int.toNat_natCast]at z;have hF:F<sn:=by omega
    obtain⟨bs,os,IA,im,ic,rfl,Y,c0,c1,c2,r2⟩:=HN.1.sq.sq' (k:=F) (by rw[aw.1];exact hF);have bq:(l.seqs[F]?.getD Sq.zero).ins.length=im:=r2.ints.1;have ao:=(HF.1.seqs F (by rw[aw.1];exact hF)).1;have U:=aJ j.1 Y;rw[←j.1.cell (p:=⟨bs,os+F*3,none⟩) Y]at c0;rw[←j.1.cell (p:=⟨bs,os+F*3+2,none⟩) Y]at c2;have a1:=Hd r2;clear c1 r2;generalize l.seqs[F]?.getD Sq.zero=s at *;by_cases hk:s.kind=0
    ·have dk:(s.kind==0)=true:=by simp[hk]
     have aW:(s.kind != 0)=false:=by simp[hk]
     by_cases a7:0<=a
     ·have d2:decide (a<0)=false:=decide_eq_false (by omega);have da:decide (a<0)=false:=by simp;omega
      obtain⟨A,rfl⟩:∃A:Nat,a=(A:Int):=⟨a.toNat,by omega⟩;have hA:A<ln:=by omega
      have Q:0<im:=by rcases ao with h|h <;> omega
      obtain⟨K,hK⟩:∃K:Nat,1+l.inputs+(sn:Int)+(A:Int)=(K:Int):=⟨(1+l.inputs+(sn:Int)+(A:Int)).toNat,by omega⟩;have V:K<l.count:=by have:=aq.1;omega
      have aL:DT l ((l.first:Int)+(A:Int))=cnt (fw l) (K:Int):=by rw[Ah,ap.1,hK]
      have aD:(l.first:Int)+(A:Int)=(K:Int):=by rw[ap.1,hK]
      rw[aL,aD]at z;have aZ:l.count<=1048576:=by have:=aq.1;omega
      have HK:=Hd hK;obtain⟨bi,oi,rfl,az,ak⟩:=a1.1.ints.2 Q;have ci:=ak 0 Q;have af:=aJ j.1 az;rw[←j.1.cell (p:=⟨bi,oi+0,none⟩) az,Nat.add_zero]at ci;clear ak ao ah ae aL aD hK;generalize s.ins[0]?.getD 0=y at *;have HU:=Hd (fun(v:World) (hv:Below w.heap.size w v)=>yE l (some ⟨bs,os,none⟩) LA OA sn sc ln lc on oc v (HN.1.below hv) HF.1);obtain⟨C,hC⟩:∃C,l.count=C:=⟨_,rfl⟩;rw[hC]at V aZ HU;have HC:=Hd hC;clear hC;by_cases hy:y=(K:Int)
      ·by_cases hq:cnt (fw l) (K:Int)=1
       ·have HQ:=Hd hq;subst hy;clear z hq hk;go_enter Tryz.func254,Tryz.ntmps254;go_upto_region 1 with fail;generalize (w.alloc (.cells (bX l (some ⟨bs,os,none⟩) LA OA sn sc ln lc on oc) 41)).alloc (.cells #[.int .i64 (A:Int),.int .i64 (F:Int)] 94)=W9 at *;obtain⟨x0,x1,x2,x3⟩:=cs4 q.1;obtain⟨y0,y1⟩:=cs2 u.1;have lx:=aH q.1;have ly:=aH u.1;go_wp2_with fail;refine(bV (A:Int) (-1) ((ln:Int)-1) _).mono ?_;rw[H1.1];rintro _ w' ⟨rfl,rfl⟩;go_wp2_with fail;refine(bV (F:Int) (-1) ((sn:Int)-1) _).mono ?_;rw[H2.1];rintro _ w' ⟨rfl,rfl⟩;go_upto_region 7 with fail;have aS:=Hd (fun(x:Sub W9)=>rP l.inputs (some ⟨bs,os,none⟩) LA OA sn sc ln lc on oc x.v aN.1 (by omega) (by omega));have ar:=dB W9;have aP:=au W9;refine wpB W9 ?_
        repeat(go_big_quiet_step ((first
         | (go_at_call 156;with_reducible exact aV (aS.1 _)))))
        refine wpQuiet_nil ?_;rintro _ ⟨⟨w5,H⟩,rfl⟩;clear ar aP;rw[HK.1];have HD:=Hd (aA j.1 H);have aE:=Hd (aF H q.1);have ay:=Hd (aF H u.1);have bd:=aJ H U;have bf:=aJ H af;rw[←H.cell (p:=⟨bs,os+F*3+2,none⟩) U]at c2;rw[←H.cell (p:=⟨bi,oi,none⟩) af]at ci;clear x0 x1 x2 x3 y0 y1 lx ly H c0 U af;obtain⟨x0,x1,x2,x3⟩:=cs4 aE.1;have y1:=aC (k:=1) ay.1 rfl;have lx:=aH aE.1;have ly:=aH ay.1;go_wp2_with fail;refine(HU.1 _ HD.1).mono ?_;rintro _ w6 ⟨UA,rfl,o6,b6⟩;have a6:=Hd (aA HD.1 b6);obtain⟨bu,ou,rfl,bl,al⟩:=o6.ints.2 (by omega);have cu:=al K V;rw[jZ _ V,HQ.1]at cu;clear o6 b6 al x0 x1 x2 x3 y1 lx ly c2 ci;go_wp2;go_ret;exact⟨rfl,a6.1⟩
       have B:Hv (¬eB l ⟨(A:Int),(F:Int)⟩):=Hd<|fun h=>hq ((z.1 h).2.2.2.2 (by omega) (by omega)).2
       exact absurd g.1 B.1
      have B:Hv (¬eB l ⟨(A:Int),(F:Int)⟩):=Hd<|fun h=>hy ((z.1 h).2.2.2.2 (by omega) (by omega)).1
      exact absurd g.1 B.1
     have d2:decide (a<0)=true:=decide_eq_true (by omega);obtain rfl:a=-1:=by omega
     clear z hk ae ah hn a7;go_enter Tryz.func254,Tryz.ntmps254;go_upto_region 1 with fail;generalize (w.alloc (.cells (bX l (some ⟨bs,os,none⟩) LA OA sn sc ln lc on oc) 41)).alloc (.cells #[.int .i64 (-1),.int .i64 (F:Int)] 94)=W9 at *;obtain⟨-,x1,x2⟩:=cs3 q.1;obtain⟨y0,y1⟩:=cs2 u.1;have lx:=aH q.1;have ly:=aH u.1;go_wp2_with fail;refine(bV (-1) (-1) ((ln:Int)-1) _).mono ?_;rw[H1.1];rintro _ w' ⟨rfl,rfl⟩;go_wp2_with fail;refine(bV (F:Int) (-1) ((sn:Int)-1) _).mono ?_;rw[H2.1];rintro _ w' ⟨rfl,rfl⟩;go_wp2;go_ret;exact⟨rfl,j.1⟩
    have aW:(s.kind != 0)=true:=by simp;exact hk
    have B:Hv (¬eB l ⟨a,(F:Int)⟩):=Hd<|fun h=>hk ((z.1 h).2.2.2.1 (by omega))
    exact absurd g.1 B.1
   have d1:decide (b≥0)=false:=decide_eq_false W;obtain rfl:b=-1:=by omega
   have da:decide (a<0)=false:=by simp;omega
   have d2:decide (a<0)=false:=decide_eq_false (by omega);clear z hn W ae ah;go_enter Tryz.func254,Tryz.ntmps254;go_upto_region 1 with fail;generalize (w.alloc (.cells (bX l SA LA OA sn sc ln lc on oc) 41)).alloc (.cells #[.int .i64 a,.int .i64 (-1)] 94)=W9 at *;obtain⟨-,x1,x2⟩:=cs3 q.1;obtain⟨y0,y1⟩:=cs2 u.1;have lx:=aH q.1;have ly:=aH u.1;go_wp2_with fail;refine(bV a (-1) ((ln:Int)-1) _).mono ?_;rw[H1.1];rintro _ w' ⟨rfl,rfl⟩;go_wp2_with fail;refine(bV (-1) (-1) ((sn:Int)-1) _).mono ?_;rw[H2.1];rintro _ w' ⟨rfl,rfl⟩;go_wp2;go_ret;exact⟨rfl,j.1⟩
theorem rU(l:aU)(SA LA OA:Oh)(sn sc ln lc on oc:Nat)(Z q:Int)(es:List LeT)(Y:Oh)(j W:Nat)(w:World)(h:fA w l SA LA OA sn sc ln lc on oc)(hf:bJ l)(hE:RdC w w.heap.size (ay es) (.slice Y j W))(a8:j<=1048576)(D:nA l ⟨Z,q,es⟩) :
  Calls Tryz.prog 203 #[ig l SA LA OA sn sc ln lc on oc,.agg #[.int .i64 Z,.int .i64 q,.slice Y j W]] w fun e w'=>e=.returned (.bool true)/\Below w.heap.size w w':=by
 have g:=Hd D;clear D;have ad:=hE.esN;obtain⟨HE,av⟩:=hd2 hE ad;clear hE ad;have ak:=Hd (aB (aB (Below.refl w.heap.size w) (.cells (bX l SA LA OA sn sc ln lc on oc) 41)) (.cells #[.int .i64 Z,.int .i64 q,.slice Y j W] 89));have hx:=dP (.cells #[.int .i64 Z,.int .i64 q,.slice Y j W] 89) (aG w (.cells (bX l SA LA OA sn sc ln lc on oc) 41));have R:=aG (w.alloc (.cells (bX l SA LA OA sn sc ln lc on oc) 41)) (.cells #[.int .i64 Z,.int .i64 q,.slice Y j W] 89);simp only[World.size_alloc]at R;obtain⟨I,J⟩:=hd2 hx R;clear hx R;obtain⟨K,V,Q⟩:=h.lens;have aP:=hf.nseq;have aC:=hf.nlut;have aD:=hf.nout;have a4:=hf.inp;rw[K]at aP;rw[V]at aC;rw[Q]at aD;obtain⟨HN,HF,az,a6,aq⟩:=hd5 h hf K V Q;have a3:Hv ((l.first:Int)=1+l.inputs+(sn:Int)):=Hd<|by show _=_;unfold aU.first;omega
 have a5:Hv ((l.count:Int)=1+l.inputs+(sn:Int)+(ln:Int)):=Hd<|by show _=_;unfold aU.count aU.first;omega
 clear h hf K V Q;go_enter Tryz.func203,Tryz.ntmps203;go_upto_region 1 with fail;generalize (w.alloc (.cells (bX l SA LA OA sn sc ln lc on oc) 41)).alloc (.cells #[.int .i64 Z,.int .i64 q,.slice Y j W] 89)=W9 at *;obtain⟨x0,x1,x2,x3⟩:=cs4 I.1;obtain⟨y0,y1,y2⟩:=cs3 J.1;have lx:=aH I.1;have ly:=aH J.1;go_wp2_with fail;refine(kI l SA LA OA sn sc ln lc on oc _ (HN.1.below ak.1)).mono ?_;rw[bZ HF.1];rintro _ w1 ⟨rfl,b1⟩;have B:=Hd (aA ak.1 b1);have G:=Hd (aF b1 I.1);have U:=Hd (aF b1 J.1);obtain⟨W8,rfl⟩:∃x,x=w1:=⟨w1,rfl⟩;clear b1 x0 x1 x2 x3 lx y0 y1 y2 ly;obtain⟨x0,x1,x2,x3⟩:=cs4 G.1;obtain⟨y0,y1,y2⟩:=cs3 U.1;have lx:=aH G.1;have ly:=aH U.1
 rcases jm g.1 with rfl|rfl|rfl|rfl
 ·have hk:=uU.1 g.1;have d0:decide (q≥0)=true:=decide_eq_true hk.1;have d1:decide (q<l.inputs)=true:=decide_eq_true hk.2;clear hk;go_wp2;go_ret;exact⟨rfl,B.1⟩
 ·have hk:=uV.1 g.1;rw[aq.1]at hk;have d0:decide (q≥0)=true:=decide_eq_true hk.1;have d1:decide (q<(on:Int))=true:=decide_eq_true hk.2;clear hk;go_wp2;go_ret;exact⟨rfl,B.1⟩
 ·have hk:=mq.1 g.1;rw[az.1]at hk;have d0:decide (q≥0)=true:=decide_eq_true hk.1;have d1:decide (q<(sn:Int))=true:=decide_eq_true hk.2;clear hk;go_wp2;go_ret;exact⟨rfl,B.1⟩
 have aN:=Hd (qK.1 g.1);go_wp2_with fail;clear x0 x1 x2 x3 lx y0 y1 y2 ly
 go_loopw[5] (fun i wr=>∃k:Nat,k<=j/\i=.int .i64 k/\Below W8.heap.size W8 wr) (fun i _=>j-(intOf i).toNat)
 ·exact⟨0,Nat.zero_le _,rfl,Below.refl _ _⟩
 obtain⟨k,hk,rfl,hb⟩:=hrel;have aO:=Hd hb;have u:=Hd (aA B.1 hb);have hx:=aF hb G.1;have R:=aF hb U.1;clear hb;obtain⟨x0,x1,x2,x3⟩:=cs4 hx;obtain⟨y0,-,y2⟩:=cs3 R;have lx:=aH hx;have ly:=aH R;clear hx R;by_cases aI:k<j
 ·have ax:=dT (by omega:k<j);have z:k<es.length:=by rw[av.1];exact aI
  obtain⟨be,oe,am,H,c0,c1⟩:=HE.1.es (k:=k) z;have aE:=Hd am;have aK:=aJ u.1 H;rw[←u.1.cell (p:=⟨be,oe+k*2,none⟩) H]at c0;rw[←u.1.cell (p:=⟨be,oe+k*2+1,none⟩) H]at c1;have aL:Hv (eB l (es[k]?.getD LeT.zero)):=Hd<|aN.1 _ (by rw[List.getElem?_eq_getElem z];exact List.getElem_mem z)
  clear z am;obtain rfl:=aE.1;generalize es[k]?.getD LeT.zero=e at *;obtain⟨a,b⟩:=e;simp only at c0 c1;obtain⟨i0,i1⟩:=ib (by omega:k<j);go_upto_region 13 with fail;have aM:=Hd (fun(v:Sub wr)=>KM l SA LA OA sn sc ln lc on oc a b v.v (HN.1.below (aA u.1 v.h)) HF.1 aL.1);have af:=dB wr;have aw:=au wr;refine wpB wr ?_
  repeat(go_big_quiet_step ((first
   | (go_at_call 254;with_reducible exact aV (aM.1 _)))))
  refine wpQuiet_nil ?_;rintro _ ⟨⟨w5,hD⟩,rfl⟩;clear af aw;have HD:=Hd (aA aO.1 hD);clear hD x0 x1 x2 x3 lx y0 y2 ly c0 c1 aK;go_wp2;go_roundw
  ·exact⟨k+1,by omega,by go_num,HD.1⟩
  simp[intOf];omega
 have ax:=dF (by omega:j<=k);go_wp2;go_ret;exact⟨rfl,u.1⟩
theorem MM{l:aU}(hf:bJ l){es:List LeT}(h:∀e∈es,eB l e):asc ((es.flatMap (fD l)).filter fun x=>decide (0<x/\x∉es.map (dM l)))=qA l es:=by
 unfold qA LV;refine congrArg asc (List.filter_congr fun x hx=>?_);obtain⟨e,he,hx⟩:=List.mem_flatMap.1 hx;have:=((oI hf (h e he)).2 x hx).1;simp[this]
theorem tK(l:aU)(SA LA OA:Oh)(sn sc ln lc on oc:Nat)(es:List LeT)(EA:Oh)(I ec:Nat)(w:World)(h:fA w l SA LA OA sn sc ln lc on oc)(hf:bJ l)(hE:RdC w w.heap.size (ay es) (.slice EA I ec))(hK:∀e∈es,eB l e)(bj:I<=100000) :
  Calls Tryz.prog 158 #[ig l SA LA OA sn sc ln lc on oc,.slice EA I ec] w fun e w'=>∃A n c,e=.returned (.slice A n c)/\Own w.heap.size w' A n c (qA l es)/\Below w.heap.size w w':=by
 have ag:=hE.esN;obtain⟨HE,af⟩:=hd2 hE ag;clear hE ag;have j:=Hd (aB (Below.refl w.heap.size w) (.cells (bX l SA LA OA sn sc ln lc on oc) 41));have B:=Hd (aG w (.cells (bX l SA LA OA sn sc ln lc on oc) 41));obtain⟨HN,HF⟩:=hd2 h hf;clear h hf;have Z:=Hd hK;clear hK;have ao:=Hd (MM HF.1 Z.1);go_enter Tryz.func158,Tryz.ntmps158;go_upto_region 1 with fail;generalize w.alloc (.cells (bX l SA LA OA sn sc ln lc on oc) 41)=U at *;go_wp2
 go_loopw[5,6,7] (fun u v i wr=>∃(k:Nat) (A1:Oh) (n1 c1:Nat) (A2:Oh) (c2:Nat),k<=I/\i=.int .i64 k/\u=.slice A1 n1 c1/\v=.slice A2 k c2/\aD U wr [.cel (aI ((es.take k).flatMap (fD l))) (.slice A1 n1 c1),.cel (aI ((es.take k).map (dM l))) (.slice A2 k c2)]) (fun _ _ i _=>I-(intOf i).toNat)
 ·exact⟨0,_,_,_,_,_,Nat.zero_le _,rfl,rfl,rfl,by have h:=((aD.refl U).pushNew 3 1).pushNew 3 1;rw[World.size_alloc]at h;exact h⟩
 obtain⟨k,A1,n1,cA,A2,cB,hk,rfl,rfl,rfl,hs⟩:=hrel;have G:=Hd hs;clear hs
 have aK:Hv (((es.take k).flatMap (fD l)).length<=4*k):=Hd<|by
  show _<=_;have h:=mi (f:=fD l) (m:=4) (xs:=es.take k) fun e he=>(oI HF.1 (Z.1 e (List.mem_of_mem_take he))).1;rw[List.length_take]at h;have h2:min k es.length*4<=k*4:=Nat.mul_le_mul_right 4 (Nat.min_le_left _ _);omega
 have bb:n1<=4*k:=by rw[←(G.1.ints 0 rfl).1];exact aK.1
 by_cases ax:k<I
 ·have au:=dT (by omega:k<I);have D:k<es.length:=by rw[af.1];exact ax
  obtain⟨V,R,ai,K,c0,c1⟩:=HE.1.es (k:=k) D;have aw:=Hd ai;have J:=Hd (Z.1 _ (List.getElem_mem D));have az:Hv ((es.take (k+1)).map (dM l)=(es.take k).map (dM l)++[dM l ⟨(es[k]?.getD LeT.zero).lut,(es[k]?.getD LeT.zero).ff⟩]):=Hd<|by show _=_;rw[bF (z:=LeT.zero) D,List.map_append];rfl
  have W:=Hd (show(es.take (k+1)).flatMap (fD l)=(es.take k).flatMap (fD l)++fD l ⟨(es[k]?.getD LeT.zero).lut,(es[k]?.getD LeT.zero).ff⟩ from by rw[bF (z:=LeT.zero) D,List.flatMap_append,List.flatMap_singleton]);rw[show es[k]=es[k]?.getD LeT.zero by rw[List.getElem?_eq_getElem D];rfl]at J;clear D ai;obtain rfl:=aw.1;generalize es[k]?.getD LeT.zero=e at *;obtain⟨i0,i1⟩:=ib (by omega:k<I);have g:Hv (∀w',Below U.heap.size U w'→(K4 w' w.heap.size (.int .i64 l.inputs) (.slice SA sn sc) (.slice LA ln lc) (.slice OA on oc) (w'.cell? ⟨V,R+k*2,none⟩=some (.int .i64 e.lut)/\w'.cell? ⟨V,R+k*2+1,none⟩=some (.int .i64 e.ff)))):=Hd<|fun v H=>⟨aC (k:=0) (aF H B.1) rfl,aC (k:=1) (aF H B.1) rfl,aC (k:=2) (aF H B.1) rfl,aC (k:=3) (aF H B.1) rfl,((aA j.1 H).cell (p:=⟨V,R+k*2,none⟩) K).trans c0,((aA j.1 H).cell (p:=⟨V,R+k*2+1,none⟩) K).trans c1⟩
  clear c0 c1;obtain⟨x0,x1,x2,x3,c0,c1⟩:=g.1 _ G.1.bel;have lx:=aH (aF G.1.bel B.1);have ah:=aJ (aA j.1 G.1.bel) K;have al:=Hd (oI HF.1 J.1).1;have aE:=Hd (fun(v:World) (H:Below U.heap.size U v)=>vN l SA LA OA sn sc ln lc on oc e.lut e.ff v (HN.1.below (aA j.1 H)) HF.1 J.1);have ap:=Hd (fun(v:World) (H:Below U.heap.size U v)=>rQ l SA LA OA sn sc ln lc on oc e.lut e.ff v (HN.1.below (aA j.1 H)) HF.1 J.1);generalize fD l ⟨e.lut,e.ff⟩=src at *;generalize dM l ⟨e.lut,e.ff⟩=Y at *;generalize av:(es.take k).flatMap (fD l)=XS at *;generalize aM:(es.take k).map (dM l)=YS at *;clear av aM;have hS:=Hd G.1.drew;have q:=hS.1.bel;go_upto_region 6 with fail
  go_region_held3 (fun w'=>K4 w' w.heap.size (.int .i64 l.inputs) (.slice SA sn sc) (.slice LA ln lc) (.slice OA on oc) (w'.cell? ⟨V,R+k*2,none⟩=some (.int .i64 e.lut)/\w'.cell? ⟨V,R+k*2+1,none⟩=some (.int .i64 e.ff)))
   (first|with_reducible exact g.1 _ q)
   ((first
    | (go_at_call 241;(with_reducible refine(aE.1 _ q).mono ?_);rintro e5 w5 ⟨A5,n5,c5,rfl,o5,b5⟩;have O5:=Hd o5.ints;replace q:=aA q b5;have aq:=Hd (hS.1.below b5);clear b5 o5)
    | (refine nk rfl _ _ (by rfl) _ aq.1 0 A1 n1 cA XS A5 n5 c5 src rfl (by rfl) (by rfl) O5.1 (by have h5:=O5.1.1;have h6:=al.1;omega) ?_;rintro A6 c6 w6 S6 aQ;have Q:=Hd S6;replace q:=S6.bel;clear S6 aQ)))
  clear hS q x0 x1 x2 x3 lx c0 c1 ah;obtain⟨x0,x1,x2,x3,c0,c1⟩:=g.1 _ Q.1.bel;have lx:=aH (aF Q.1.bel B.1);have ah:=aJ (aA j.1 Q.1.bel) K;have hS:=Hd Q.1.drew;have q:=hS.1.bel;go_upto_region 7 with fail
  go_region_held3 (fun w'=>K4 w' w.heap.size (.int .i64 l.inputs) (.slice SA sn sc) (.slice LA ln lc) (.slice OA on oc) (w'.cell? ⟨V,R+k*2,none⟩=some (.int .i64 e.lut)/\w'.cell? ⟨V,R+k*2+1,none⟩=some (.int .i64 e.ff)))
   (first|with_reducible exact g.1 _ q|with_reducible exact g.1 _ (aB q _))
   ((first
    | (go_at_call 204;(with_reducible refine(ap.1 _ q).mono ?_);rintro _ w7 ⟨rfl,b7⟩;replace q:=aA q b7;have aN:=Hd (hS.1.below b7);clear b7)
    | (refine iH rfl _ _ (by rfl) _ (aN.1.alloc _) 1 A2 k cB (YS) Y _ (0,0) rfl (by rfl) (by rfl) (aG _ _) (by omega) ?_;intro g8 a0 w8 S8 aR;have ak:=Hd S8;replace q:=S8.bel;clear S8 aR)))
  go_wp2;go_roundw
  ·exact⟨k+1,_,_,_,_,_,by omega,by go_num,rfl,rfl,by rw[W.1,az.1];exact ak.1⟩
  simp[intOf];omega
 have ae:k=I:=by omega
 have au:=dF (by omega:I<=k);have W:Hv (es.take k=es):=Hd<|by show _=_;rw[ae];exact List.take_of_length_le (by rw[af.1];exact Nat.le_refl _)
 rw[W.1]at G;have O1:=Hd (G.1.ints 0 rfl);have O2:=Hd (G.1.ints 1 rfl);clear ae;go_wp2_with fail;refine(rT A1 A2 n1 cA k cB _ _ _ O1.1 O2.1 (by omega) (by omega)).mono ?_;rintro _ w9 ⟨A,n,c,rfl,o9,b9⟩;have O9:=Hd (o9.more (Nat.le_trans j.1.size G.1.bel.size));have B9:=Hd (aA (aA j.1 G.1.bel) b9);clear o9 b9;go_wp2;go_ret;exact⟨_,_,_,rfl,by rw[←ao.1];exact O9.1,B9.1⟩
theorem BD(l:aU)(SA LA OA:Oh)(sn sc ln lc on oc:Nat)(Z u:Int)(es:List LeT)(EA:Oh)(B R:Nat)(w:World)(h:fA w l SA LA OA sn sc ln lc on oc)(hf:bJ l)(hE:RdC w w.heap.size (ay es) (.slice EA B R))(hK:nA l ⟨Z,u,es⟩)(br:B<=1048576) :
  Calls Tryz.prog 112 #[ig l SA LA OA sn sc ln lc on oc,.agg #[.int .i64 Z,.int .i64 u,.slice EA B R]] w fun e w'=>∃A n c,e=.returned (.slice A n c)/\Own w.heap.size w' A n c (j4 l ⟨Z,u,es⟩)/\Below w.heap.size w w':=by
 have ap:=hE.esN;obtain⟨HE,am⟩:=hd2 hE ap;clear hE ap;have q:=Hd (aB (aB (Below.refl w.heap.size w) (.cells (bX l SA LA OA sn sc ln lc on oc) 41)) (.cells #[.int .i64 Z,.int .i64 u,.slice EA B R] 89));have hx:=dP (.cells #[.int .i64 Z,.int .i64 u,.slice EA B R] 89) (aG w (.cells (bX l SA LA OA sn sc ln lc on oc) 41));have hy:=aG (w.alloc (.cells (bX l SA LA OA sn sc ln lc on oc) 41)) (.cells #[.int .i64 Z,.int .i64 u,.slice EA B R] 89);simp only[World.size_alloc]at hy;obtain⟨g,j⟩:=hd2 hx hy;clear hx hy;obtain⟨ag,ai,ah⟩:=h.lens;have a2:=hf.nseq;have aO:=hf.nlut;have aP:=hf.nout;have bm:=hf.inp;rw[ag]at a2;rw[ai]at aO;rw[ah]at aP;obtain⟨HN,HF,aN,bq,bk⟩:=hd5 h hf ag ai ah;have bl:Hv ((l.first:Int)=1+l.inputs+(sn:Int)):=Hd<|by show _=_;unfold aU.first;omega
 have aq:Hv ((l.count:Int)=1+l.inputs+(sn:Int)+(ln:Int)):=Hd<|by show _=_;unfold aU.count aU.first;omega
 clear h hf ag ai ah;have HK:=Hd hK;clear hK;go_enter Tryz.func112,Tryz.ntmps112;go_upto_region 1 with fail;generalize (w.alloc (.cells (bX l SA LA OA sn sc ln lc on oc) 41)).alloc (.cells #[.int .i64 Z,.int .i64 u,.slice EA B R] 89)=W9 at *;obtain⟨x0,x1,x2,x3⟩:=cs4 g.1;obtain⟨y0,y1,y2⟩:=cs3 j.1;have lx:=aH g.1;have U:=aH j.1;have Q:=Hd ((aD.refl W9).pushNew 3 1);go_wp2_with fail;refine(rU l SA LA OA sn sc ln lc on oc Z u es EA B R _ (HN.1.below (aA q.1 Q.1.bel)) HF.1 (HE.1.below (aA q.1 Q.1.bel)) (by omega) HK.1).mono ?_;rintro _ w1 ⟨rfl,b1⟩;have D:=Hd (aA Q.1.bel b1);have I:=Hd (aA q.1 D.1);have au:=Hd (Q.1.below b1);clear b1 x0 x1 x2 x3 y0 y1 y2 lx U
 rcases jm HK.1 with rfl|rfl|rfl|rfl
 ·have HR:Hv (j4 l ⟨0,u,es⟩=[1+u]):=Hd<|rfl
  have aT:0<=u/\u<l.inputs:=uU.1 HK.1;have x0:=aC (k:=0) (aF D.1 g.1) rfl;obtain⟨y0,y1⟩:=cs2 (aF D.1 j.1);have lx:=aH (aF D.1 g.1);have U:=aH (aF D.1 j.1);go_wp2;go_ret;refine⟨_,_,_,rfl,?_,aB I.1 _⟩;rw[HR.1];exact Own.made (cur:=#[.int .i64 (1+u)]) (aG w1 _) I.1.size (by unfold maxLen;omega) rfl rfl
 ·have HR:Hv (j4 l ⟨1,u,es⟩=[]):=Hd<|rfl
  have x0:=aC (k:=0) (aF D.1 g.1) rfl;obtain⟨y0,y1⟩:=cs2 (aF D.1 j.1);have lx:=aH (aF D.1 g.1);have U:=aH (aF D.1 j.1);go_wp2;go_ret;exact⟨_,_,_,rfl,by rw[HR.1];exact(au.1.owned 0 rfl).more q.1.size,I.1⟩
 ·have HR:Hv (j4 l ⟨2,u,es⟩=[1+l.inputs+u]):=Hd<|rfl
  have aT:0<=u/\u<(sn:Int):=by rw[←aN.1];exact mq.1 HK.1
  have x0:=aC (k:=0) (aF D.1 g.1) rfl;obtain⟨y0,y1⟩:=cs2 (aF D.1 j.1);have lx:=aH (aF D.1 g.1);have U:=aH (aF D.1 j.1);go_wp2;go_ret;refine⟨_,_,_,rfl,?_,aB I.1 _⟩;rw[HR.1];exact Own.made (cur:=#[.int .i64 (1+l.inputs+u)]) (aG w1 _) I.1.size (by unfold maxLen;omega) rfl rfl
 have HR:Hv (j4 l ⟨3,u,es⟩=es.map (dM l)):=Hd<|rfl
 have aW:Hv (∀e∈es,eB l e):=Hd<|qK.1 HK.1
 obtain⟨y0,-,y2⟩:=cs3 (aF D.1 j.1);have lx:=aH (aF D.1 g.1);have U:=aH (aF D.1 j.1);go_wp2_with fail;clear y0 y2 lx U
 go_loopw[5,6] (fun v i wr=>∃(k:Nat) (A':Oh) (c':Nat),k<=B/\i=.int .i64 k/\v=.slice A' k c'/\aD W9 wr [.cel (aI ((es.take k).map (dM l))) (.slice A' k c')]) (fun _ i _=>B-(intOf i).toNat)
 ·exact⟨0,_,_,Nat.zero_le _,rfl,rfl,au.1⟩
 obtain⟨k,A2,cB,hk,rfl,rfl,hs⟩:=hrel;have J:=Hd hs;clear hs;by_cases aR:k<B
 ·have aM:=dT (by omega:k<B);have H:k<es.length:=by rw[am.1];exact aR
  obtain⟨W,V,aw,ad,c0,c1⟩:=HE.1.es (k:=k) H;have aQ:=Hd aw;have ao:=Hd (aW.1 _ (List.getElem_mem H));have aS:Hv ((es.take (k+1)).map (dM l)=(es.take k).map (dM l)++[dM l ⟨(es[k]?.getD LeT.zero).lut,(es[k]?.getD LeT.zero).ff⟩]):=Hd<|by show _=_;rw[bF (z:=LeT.zero) H,List.map_append];rfl
  rw[show es[k]=es[k]?.getD LeT.zero by rw[List.getElem?_eq_getElem H];rfl]at ao;clear H aw;obtain rfl:=aQ.1;generalize es[k]?.getD LeT.zero=e at *;obtain⟨i0,i1⟩:=ib (by omega:k<B);have G:Hv (∀w',Below W9.heap.size W9 w'→(K4 w' w.heap.size (.int .i64 l.inputs) (.slice SA sn sc) (.slice LA ln lc) (.slice OA on oc) (w'.cell? ⟨w.heap.size+1,2,none⟩=some (.slice (some ⟨W,V,none⟩) B R)/\w'.cell? ⟨W,V+k*2,none⟩=some (.int .i64 e.lut)/\w'.cell? ⟨W,V+k*2+1,none⟩=some (.int .i64 e.ff)))):=Hd<|fun v K=>⟨aC (k:=0) (aF K g.1) rfl,aC (k:=1) (aF K g.1) rfl,aC (k:=2) (aF K g.1) rfl,aC (k:=3) (aF K g.1) rfl,aC (k:=2) (aF K j.1) rfl,((aA q.1 K).cell (p:=⟨W,V+k*2,none⟩) ad).trans c0,((aA q.1 K).cell (p:=⟨W,V+k*2+1,none⟩) ad).trans c1⟩
  clear c0 c1;obtain⟨x0,x1,x2,x3,y2,c0,c1⟩:=G.1 _ J.1.bel;have lx:=aH (aF J.1.bel g.1);have U:=aH (aF J.1.bel j.1);have bp:=aJ (aA q.1 J.1.bel) ad;have aq:=Hd (fun(v:World) (K:Below W9.heap.size W9 v)=>rQ l SA LA OA sn sc ln lc on oc e.lut e.ff v (HN.1.below (aA q.1 K)) HF.1 ao.1);generalize dM l ⟨e.lut,e.ff⟩=Y at *;generalize aX:(es.take k).map (dM l)=YS at *;clear aX;have hS:=Hd J.1.drew;have hD:=hS.1.bel;go_upto_region 14 with fail
  go_region_held3 (fun w'=>K4 w' w.heap.size (.int .i64 l.inputs) (.slice SA sn sc) (.slice LA ln lc) (.slice OA on oc) (w'.cell? ⟨w.heap.size+1,2,none⟩=some (.slice (some ⟨W,V,none⟩) B R)/\w'.cell? ⟨W,V+k*2,none⟩=some (.int .i64 e.lut)/\w'.cell? ⟨W,V+k*2+1,none⟩=some (.int .i64 e.ff)))
   (first|with_reducible exact G.1 _ hD|with_reducible exact G.1 _ (aB hD _))
   ((first
    | (go_at_call 204;(with_reducible refine(aq.1 _ hD).mono ?_);rintro _ w7 ⟨rfl,b7⟩;replace hD:=aA hD b7;have a0:=Hd (hS.1.below b7);clear b7)
    | (refine iH rfl _ _ (by rfl) _ (a0.1.alloc _) 0 A2 k cB (YS) Y _ (0,0) rfl (by rfl) (by rfl) (aG _ _) (by omega) ?_;intro g8 bf w8 S8 a4;have aK:=Hd S8;replace hD:=S8.bel;clear S8 a4)))
  go_wp2;go_roundw
  ·exact⟨k+1,_,_,by omega,by go_num,rfl,by rw[aS.1];exact aK.1⟩
  simp[intOf];omega
 have ax:k=B:=by omega
 have aM:=dF (by omega:B<=k);obtain⟨-,-,y2,U⟩:=j6 (aF J.1.bel j.1);have aV:Hv (es.take k=es):=Hd<|by show _=_;rw[ax];exact List.take_of_length_le (by rw[am.1];exact Nat.le_refl _)
 rw[aV.1]at J;clear ax;go_wp2;go_ret;exact⟨_,_,_,rfl,by rw[HR.1];exact(J.1.owned 0 rfl).more q.1.size,aA q.1 J.1.bel⟩
theorem BF(l:aU)(SA LA OA:Oh)(sn sc ln lc on oc:Nat)(I u:Int)(es:List LeT)(H:Oh)(D G:Nat)(w:World)(h:fA w l SA LA OA sn sc ln lc on oc)(hf:bJ l)(hE:RdC w w.heap.size (ay es) (.slice H D G))(hK:nA l ⟨I,u,es⟩)(aR:D<=100000) :
  Calls Tryz.prog 111 #[ig l SA LA OA sn sc ln lc on oc,.agg #[.int .i64 I,.int .i64 u,.slice H D G]] w fun e w'=>∃A n c,e=.returned (.slice A n c)/\Own w.heap.size w' A n c (iU l ⟨I,u,es⟩)/\Below w.heap.size w w':=by
 have ae:=hE.esN;obtain⟨HE,a4⟩:=hd2 hE ae;clear hE ae;have U:=Hd (aB (aB (Below.refl w.heap.size w) (.cells (bX l SA LA OA sn sc ln lc on oc) 41)) (.cells #[.int .i64 I,.int .i64 u,.slice H D G] 89));have hx:=dP (.cells #[.int .i64 I,.int .i64 u,.slice H D G] 89) (aG w (.cells (bX l SA LA OA sn sc ln lc on oc) 41));have hy:=aG (w.alloc (.cells (bX l SA LA OA sn sc ln lc on oc) 41)) (.cells #[.int .i64 I,.int .i64 u,.slice H D G] 89);simp only[World.size_alloc]at hy;obtain⟨q,j⟩:=hd2 hx hy;clear hx hy;obtain⟨Q,V,R⟩:=h.lens;have aO:=hf.nseq;have av:=hf.nlut;have aw:=hf.nout;have a7:=hf.inp;rw[Q]at aO;rw[V]at av;rw[R]at aw;obtain⟨HN,HF,J,be,ao⟩:=hd5 h hf Q V R;have a5:Hv ((l.first:Int)=1+l.inputs+(sn:Int)):=Hd<|by show _=_;unfold aU.first;omega
 have ag:Hv ((l.count:Int)=1+l.inputs+(sn:Int)+(ln:Int)):=Hd<|by show _=_;unfold aU.count aU.first;omega
 clear h hf Q V R;have HK:=Hd hK;clear hK;go_enter Tryz.func111,Tryz.ntmps111;go_upto_region 1 with fail;generalize (w.alloc (.cells (bX l SA LA OA sn sc ln lc on oc) 41)).alloc (.cells #[.int .i64 I,.int .i64 u,.slice H D G] 89)=Y at *;obtain⟨x0,x1,x2,x3⟩:=cs4 q.1;obtain⟨y0,y1,y2⟩:=cs3 j.1;have lx:=aH q.1;have ly:=aH j.1;go_wp2_with fail;refine(rU l SA LA OA sn sc ln lc on oc I u es H D G _ (HN.1.below (aA U.1 (Below.refl Y.heap.size Y))) HF.1 (HE.1.below (aA U.1 (Below.refl Y.heap.size Y))) (by omega) HK.1).mono ?_;rintro _ w1 ⟨rfl,b1⟩;have z:=Hd (aA (Below.refl Y.heap.size Y) b1);have g:=Hd (aA U.1 z.1);clear b1 x0 x1 x2 x3 y0 y1 y2 lx ly
 rcases jm HK.1 with rfl|rfl|rfl|rfl
 ·have B:Hv (iU l ⟨0,u,es⟩=[]):=Hd<|rfl
  have y0:=aC (k:=0) (aF z.1 j.1) rfl;have lx:=aH (aF z.1 q.1);have ly:=aH (aF z.1 j.1);have W:=Hd ((aD.refl w1).pushNew 3 1);go_wp2;go_ret;exact⟨_,_,_,rfl,by rw[B.1];exact(W.1.owned 0 rfl).more g.1.size,aB g.1 _⟩
 ·have B:Hv (iU l ⟨1,u,es⟩=[l.outs[u.toNat]?.getD 0]):=Hd<|rfl
  have K:=uV.1 HK.1;rw[ao.1]at K;obtain⟨X,rfl⟩:∃X:Nat,u=(X:Int):=⟨u.toNat,by omega⟩;rw[Int.toNat_natCast]at B;have hX:X<on:=by omega
  obtain⟨bo,oo,rfl,ak,af⟩:=HN.1.ou.ints.2 (by omega);have co:=af X hX;have ag:=Hd co;clear af co;generalize l.outs[X]?.getD 0=y at *;have x3:=aC (k:=3) (aF z.1 q.1) rfl;obtain⟨y0,y1⟩:=cs2 (aF z.1 j.1);have lx:=aH (aF z.1 q.1);have ly:=aH (aF z.1 j.1);have co:=(g.1.cell (p:=⟨bo,oo+X,none⟩) ak).trans ag.1;have a9:=aJ g.1 ak;go_wp2;go_ret;refine⟨_,_,_,rfl,?_,aB g.1 _⟩;rw[B.1];exact Own.made (cur:=#[.int .i64 (y)]) (aG w1 _) g.1.size (by unfold maxLen;omega) rfl rfl
 ·have B:Hv (iU l ⟨2,u,es⟩=(l.seqs[u.toNat]?.getD Sq.zero).ins):=Hd<|rfl
  have K:=mq.1 HK.1;rw[J.1]at K;obtain⟨X,rfl⟩:∃X:Nat,u=(X:Int):=⟨u.toNat,by omega⟩;rw[Int.toNat_natCast]at B;have hX:X<sn:=by omega
  obtain⟨bb,ob,S,m,p,rfl,ad,c0,c1,c2,r2⟩:=HN.1.sq.sq' (k:=X) (by rw[J.1];exact hX)
  have bf:m<=4:=by
   have h1:=(HF.1.seqs X (by rw[J.1];exact hX)).1;have h2:=r2.ints.1
   rcases h1 with h|h <;> omega
  obtain⟨ax,aN⟩:=hd2 r2.ints c2;clear c0 c1 c2 r2;generalize (l.seqs[X]?.getD Sq.zero).ins=src at *;have x1:=aC (k:=1) (aF z.1 q.1) rfl;obtain⟨y0,y1⟩:=cs2 (aF z.1 j.1);have lx:=aH (aF z.1 q.1);have ly:=aH (aF z.1 j.1);have c2:=(g.1.cell (p:=⟨bb,ob+X*3+2,none⟩) ad).trans aN.1;have bc:=aJ g.1 ad;have W:=Hd ((aD.refl w1).pushNew 3 1);have ar:=Hd (ax.1.below (aB g.1 (.cells #[] 3)))
  go_wp2_with (at_builtin;refine eX rfl _ _ rfl _ W.1 0 _ 0 0 [] S m p src rfl rfl rfl ar.1 (by omega) ?_;intro A9 c9 w9 S9 au;have Z:=Hd S9;clear S9 au)
  go_ret;have h9:=Z.1.owned 0 rfl;rw[Nat.zero_add,List.nil_append]at h9;exact⟨_,_,_,rfl,by rw[B.1];exact h9.more g.1.size,aA g.1 Z.1.bel⟩
 have B:Hv (iU l ⟨3,u,es⟩=qA l es):=Hd<|rfl
 have aE:Hv (∀e∈es,eB l e):=Hd<|qK.1 HK.1
 obtain⟨x0,x1,x2,x3⟩:=cs4 (aF z.1 q.1);obtain⟨y0,-,y2⟩:=cs3 (aF z.1 j.1);have lx:=aH (aF z.1 q.1);have ly:=aH (aF z.1 j.1);go_wp2_with fail;refine(tK l SA LA OA sn sc ln lc on oc es H D G _ (HN.1.below g.1) HF.1 (HE.1.below g.1) aE.1 aR).mono ?_;rintro _ w2 ⟨A,n,c,rfl,o2,b2⟩;have O2:=Hd (o2.more g.1.size);have aQ:=Hd (aA g.1 b2);clear o2 b2;go_wp2;go_ret;exact⟨_,_,_,rfl,by rw[B.1];exact O2.1,aQ.1⟩
structure wM(w:World)(x:Lay)(SA LA OA BA CA PA RA:Oh)(sn sc ln lc on oc bn bc cn cc pn pc rn rc:Nat):Prop where
 sq:RdC w w.heap.size (aY x.net.seqs) (.slice SA sn sc)
 lt:RdC w w.heap.size (aj x.net.luts) (.slice LA ln lc)
 ou:RdC w w.heap.size (aI x.net.outs) (.slice OA on oc)
 bl:RdC w w.heap.size (aa x.blocks) (.slice BA bn bc)
 cn:RdC w w.heap.size (bL x.conns) (.slice CA cn cc)
 pl:RdC w w.heap.size (aI x.place) (.slice PA pn pc)
 ro:RdC w w.heap.size (bM x.routes) (.slice RA rn rc)
theorem wM.below{w w':World}{x:Lay}{SA LA OA BA CA PA RA:Oh}{sn sc ln lc on oc bn bc cn cc pn pc rn rc:Nat}(h:wM w x SA LA OA BA CA PA RA sn sc ln lc on oc bn bc cn cc pn pc rn rc)(hb:Below w.heap.size w w'):wM w' x SA LA OA BA CA PA RA sn sc ln lc on oc bn bc cn cc pn pc rn rc :=
 ⟨h.sq.below hb,h.lt.below hb,h.ou.below hb,h.bl.below hb,h.cn.below hb,h.pl.below hb,h.ro.below hb⟩
theorem wM.net{w:World}{x:Lay}{SA LA OA BA CA PA RA:Oh}{sn sc ln lc on oc bn bc cn cc pn pc rn rc:Nat}(h:wM w x SA LA OA BA CA PA RA sn sc ln lc on oc bn bc cn cc pn pc rn rc):fA w x.net SA LA OA sn sc ln lc on oc:=⟨h.sq,h.lt,h.ou⟩
theorem wM.own{lo hi:Nat}{w:World}{x:Lay}{u H B G g q D:Oh}{z n1 n2 n3 n4 n5 n6 c0 c1 c2 c3 c4 c5 c6:Nat}
  (h:iD lo hi w x.cells [.int .i64 x.net.inputs,.slice u z c0,.slice H n1 c1,.slice B n2 c2,.slice G n3 c3,.slice g n4 c4,.slice q n5 c5,.slice D n6 c6]):wM w x u H B G g q D z c0 n1 c1 n2 c2 n3 c3 n4 c4 n5 c5 n6 c6:=by
 obtain⟨_,k1,_⟩:=h.part (j:=1) (c:=aY x.net.seqs) rfl rfl;obtain⟨_,k2,_⟩:=h.part (j:=2) (c:=aj x.net.luts) rfl rfl;obtain⟨_,k3,_⟩:=h.part (j:=3) (c:=aI x.net.outs) rfl rfl;obtain⟨_,I,_⟩:=h.part (j:=4) (c:=aa x.blocks) rfl rfl;obtain⟨_,J,_⟩:=h.part (j:=5) (c:=bL x.conns) rfl rfl;obtain⟨_,K,_⟩:=h.part (j:=6) (c:=aI x.place) rfl rfl;obtain⟨_,Q,_⟩:=h.part (j:=7) (c:=bM x.routes) rfl rfl;exact⟨k1.rd,k2.rd,k3.rd,I.rd,J.rd,K.rd,Q.rd⟩
theorem wM.lens{w:World}{x:Lay}{SA LA OA BA CA PA RA:Oh}{sn sc ln lc on oc bn bc cn cc pn pc rn rc:Nat}(h:wM w x SA LA OA BA CA PA RA sn sc ln lc on oc bn bc cn cc pn pc rn rc):x.blocks.length=bn/\x.conns.length=cn/\x.place.length=pn/\x.routes.length=rn:=⟨h.bl.blkN,h.cn.cnN,h.pl.ints.1,h.ro.rouN⟩
def ql(l:aU)(i:Nat):Int:=(l.seqs[i]?.getD Sq.zero).ins[0]?.getD 0
def ffK(l:aU)(i:Nat):Int:=ql l i-(l.first:Int)
def ffT(l:aU)(U:List Int)(i:Nat):Prop:=0<=ffK l i/\U[(ql l i).toNat]?.getD 0=1
instance (l:aU) (U:List Int) (i:Nat):Decidable (ffT l U i):=by unfold ffT;infer_instance
def elF(l:aU)(U:List Int)(i:Nat):LeT:=⟨if ffT l U i then ffK l i else -1,(i:Int)⟩
def kZ(l:aU)(U:List Int):Nat→List LeT
 | 0=>[]
 | i+1=>if(l.seqs[i]?.getD Sq.zero).kind=0 then kZ l U i++[elF l U i]else kZ l U i
def jA(l:aU)(U:List Int):Nat→List Int
 | 0=>[]
 | i+1=>if(l.seqs[i]?.getD Sq.zero).kind=0/\ffT l U i then jA l U i++[ffK l i]else jA l U i
def kJ(l:aU)(U:List Int):Nat→List LeT
 | 0=>kZ l U l.seqs.length
 | k+1=>if(k:Int)∈jA l U l.seqs.length then kJ l U k else kJ l U k++[⟨(k:Int),-1⟩]
def els(l:aU):List LeT:=kJ l (aK l.count (fw l)) l.luts.length
theorem wN{l:aU}(hf:bJ l){i:Nat}(hi:i<l.seqs.length):0<=ql l i/\ql l i<(l.count:Int)/\1<=(l.seqs[i]?.getD Sq.zero).ins.length:=by
 obtain⟨h1,h2⟩:=hf.seqs i hi
 have hl:1<=(l.seqs[i]?.getD Sq.zero).ins.length:=by
  rcases h1 with h|h
  ·rw[h.2.2];exact Nat.le_refl _
  rw[h.2.2];omega
 have h3:=h2 _ (List.getElem_mem (show 0<(l.seqs[i]?.getD Sq.zero).ins.length by omega));unfold ql;rw[List.getElem?_eq_getElem (by omega)];exact⟨h3.1,h3.2,hl⟩
theorem GU(l:aU)(U:List Int):∀i,(kZ l U i).length<=i
 | 0=>Nat.le_refl _
 | i+1=>by
  have h:=GU l U i;rw[kZ]
  split
  ·rw[List.length_append];simp;omega
  omega
theorem zt(l:aU)(U:List Int):∀k,(kJ l U k).length<=l.seqs.length+k
 | 0=>GU l U _
 | k+1=>by
  have h:=zt l U k;rw[kJ]
  split
  ·omega
  rw[List.length_append];simp;omega
theorem GV{l:aU}(hf:bJ l):∀i,i<=l.seqs.length→∀e∈kZ l (aK l.count (fw l)) i,eB l e
 | 0,_=>by simp[kZ]
 | i+1,hi=>by
  intro e he;have ih:=GV hf i (by omega);rw[kZ]at he
  split at he
  ·rename_i hk
   rcases List.mem_append.1 he with he|he
   ·exact ih e he
   rw[List.mem_singleton]at he;subst he;obtain⟨b0,j,_⟩:=wN hf (by omega:i<l.seqs.length);have hc:(l.count:Int)=(l.first:Int)+(l.luts.length:Int):=by unfold aU.count;omega
   unfold elF;refine⟨?_,by simp only;omega,by simp only;omega,fun _=>by simpa [aU.sq]using hk,fun h0 _=>?_⟩
   ·simp only
    split
    ·rename_i h;have:=h.1;unfold ffK at *;omega
    omega
   simp only at h0 ⊢
   split at h0
   ·rename_i h;rw[if_pos h];have g:=h.2;rw[jZ _ (by omega)]at g;have e1:(l.first:Int)+ffK l i=ql l i:=by unfold ffK;omega
    have e2:(((ql l i).toNat:Nat):Int)=ql l i:=Int.toNat_of_nonneg b0;rw[e2]at g;rw[e1];refine⟨by simp[aU.sq,ql],?_⟩;rw[JZ];unfold fw at g;omega
   omega
  exact ih e he
theorem GX{l:aU}(hf:bJ l):∀k,k<=l.luts.length→∀e∈kJ l (aK l.count (fw l)) k,eB l e
 | 0,_=>GV hf _ (Nat.le_refl _)
 | k+1,hk=>by
  intro e he;have ih:=GX hf k (by omega);rw[kJ]at he
  split at he
  ·exact ih e he
  rcases List.mem_append.1 he with he|he
  ·exact ih e he
  rw[List.mem_singleton]at he;subst he;exact⟨by simp only;omega,by simp only;omega,by simp only;omega,fun h=>by simp only at h;omega,fun _ h=>by simp only at h;omega⟩
theorem Dy{l:aU}(hf:bJ l):∀e∈els l,eB l e:=GX hf _ (Nat.le_refl _)
theorem tL:(Tryz.prog.info? 94).map (fun i=>(i.zero,i.size,i.bytes))=some (some (.agg #[.int .i64 0,.int .i64 0]),2,16):=by kernel_rfl
theorem nL(es:List LeT)(a b:Int):ay (es++[⟨a,b⟩])=.row 94 2 (es.flatMap LeT.cells++[.int a,.int b]):=by
 unfold ay;rw[List.flatMap_append,List.flatMap_singleton];rfl
theorem Dz(l:aU)(SA LA OA:Oh)(sn sc ln lc on oc:Nat)(w:World)(hN:fA w l SA LA OA sn sc ln lc on oc)(hf:bJ l) :
  Calls Tryz.prog 179 #[ig l SA LA OA sn sc ln lc on oc] w fun e w'=>∃A n c,e=.returned (.slice A n c)/\aD w w' [.cel (ay (els l)) (.slice A n c)]:=by
 obtain⟨bf,bn,cq⟩:=hN.lens;have cY:sn<=12:=by rw[←bf];exact hf.nseq
 have cT:ln<=400:=by rw[←bn];exact hf.nlut
 have cO:=hf.inp;obtain⟨bI,cn,HN,HF⟩:=hd4 bf bn hN hf;have b9:Hv ((l.first:Int)=1+l.inputs+(sn:Int)):=Hd<|by show _=_;unfold aU.first;omega
 have bE:Hv ((l.count:Int)=1+l.inputs+(sn:Int)+(ln:Int)):=Hd<|by show _=_;unfold aU.count aU.first;omega
 obtain⟨R,bx,bB,bN,bL⟩:=info_parts tL;have j:=Hd (show Tryz.prog.info? 94=some R/\R.zero=some (.agg #[.int .i64 0,.int .i64 0])/\R.size=2/\R.bytes=16 from⟨bx,bB,bN,bL⟩);clear hN hf bf bn cq bx bB bN bL;have Q:=Hd (aB (Below.refl w.heap.size w) (.cells (bX l SA LA OA sn sc ln lc on oc) 41));have G:=Hd (aG w (.cells (bX l SA LA OA sn sc ln lc on oc) 41));go_enter Tryz.func179,Tryz.ntmps179;go_upto_region 1 with fail;obtain⟨gN,a1⟩:∃g,w.heap.size=g:=⟨_,rfl⟩;generalize w.alloc (.cells (bX l SA LA OA sn sc ln lc on oc) 41)=J at *;rw[a1]at G
 (try rw[a1])
 clear a1;obtain⟨n0,n1,n2,n3,D⟩:=bA (aF (Below.refl J.heap.size J) G.1);go_wp2_with fail;refine(ut l SA LA OA sn sc ln lc on oc _ (HN.1.below Q.1) HF.1).mono ?_;rintro _ w1 ⟨UA,rfl,o1,b1⟩;have az:=Hd ((aD.refl J).pushOwn b1 o1);obtain⟨U,hU⟩:∃U,aK l.count (fw l)=U:=⟨_,rfl⟩;obtain⟨C,hC⟩:∃C,l.count=C:=⟨_,rfl⟩;obtain⟨cd,bd⟩:=hd2 hU hC;rw[hU]at az;rw[hC]at az
 (try rw[hC])
 have cQ:1<=C/\C<=440:=by have h1:=bE.1;have h2:=bd.1;omega
 clear o1 b1 hU hC n0 n1 n2 n3 D;obtain⟨n0,n1,n2,n3,D⟩:=bA (aF az.1.bel G.1);have cl:=fun W=>jc ln (by omega) W;have ae:=(az.1.pushRowB ln).pushNil 94 2;go_upto_region 3 with fail;obtain⟨gT,aY⟩:∃g,w1.heap.size=g:=⟨_,rfl⟩;rw[aY]at ae
 (try rw[aY])
 have Y:Hv (aD J (w1.alloc (.cells (madeCells #[.bool false] ln) 4)) [.cel (aI U) (.slice UA C C),eO gT ln (jA l U 0),.cel (ay (kZ l U 0)) (.slice none 0 0)]):=Hd ae;clear aY ae cl az;generalize w1.alloc (.cells (madeCells #[.bool false] ln) 4)=w2 at *;clear n0 n1 n2 n3 D;obtain⟨n0,n1,n2,n3,D⟩:=bA (aF Y.1.bel G.1);go_wp2_with fail;clear n0 n1 n2 n3 D
 go_loopw[5,20] (fun v i wr=>∃(q:Nat) (A:Oh) (n c:Nat),q<=sn/\n<=q/\i=.int .i64 (q:Int)/\v=.slice A n c/\aD J wr [.cel (aI U) (.slice UA C C),eO gT ln (jA l U q),.cel (ay (kZ l U q)) (.slice A n c)]) (fun _ i _=>sn-(intOf i).toNat)
 ·exact⟨0,none,0,0,by omega,by omega,rfl,rfl,Y.1⟩
 obtain⟨q,A,n,c,hq,cS,rfl,rfl,hs⟩:=hrel;have HS:=Hd hs;clear hs;by_cases bb:q<sn
 ·have ch:=dT (by omega:q<sn);have bh:q<l.seqs.length:=by rw[bI.1];exact bb
  obtain⟨sb,so,IA,im,ic,bO,aR,d0,d1,d2,rI⟩:=HN.1.sq.sq' (k:=q) bh;obtain⟨b7,bz,bR⟩:=wN HF.1 bh;have bS:=Hd rI.ints;have cg:1<=im:=by rw[←bS.1.1];exact bR
  obtain⟨bi,oi,bD,bc,bt⟩:=bS.1.2 cg;have cx:=bt 0 (by omega);rw[Nat.add_zero]at cx;have aZ:kZ l U (q+1)=if(l.seqs[q]?.getD Sq.zero).kind=0 then kZ l U q++[elF l U q]else kZ l U q:=rfl
  have bm:jA l U (q+1)=if(l.seqs[q]?.getD Sq.zero).kind=0/\ffT l U q then jA l U q++[ffK l q]else jA l U q:=rfl
  have hF:elF l U q=⟨if ffT l U q then ffK l q else -1,(q:Int)⟩:=rfl;have hT:ffT l U q↔0<=ffK l q/\U[(ql l q).toNat]?.getD 0=1:=Iff.rfl;have hK:ffK l q=ql l q-(1+l.inputs+(sn:Int)):=by unfold ffK;rw[b9.1]
  have bY:ql l q=(l.seqs[q]?.getD Sq.zero).ins[0]?.getD 0:=rfl;rw[←bY]at cx;obtain⟨X,hX⟩:∃X:Nat,ql l q=(X:Int):=⟨_,(Int.toNat_of_nonneg b7).symm⟩;rw[hX]at cx hT hK bz;rw[Int.toNat_natCast]at hT;generalize ffK l q=KK at *;generalize (l.seqs[q]?.getD Sq.zero).kind=kd at *;generalize (l.seqs[q]?.getD Sq.zero).init=it at *;obtain⟨I,aM⟩:∃y,kZ l U q=y:=⟨_,rfl⟩;obtain⟨TK,bC⟩:∃y,jA l U q=y:=⟨_,rfl⟩;rw[aM]at aZ HS;rw[bC]at bm HS;have ar:=Hd (aA Q.1 HS.1.bel);have bV:Hv (∀v,Below w.heap.size w v→v.cell? ⟨bi,oi,none⟩=some (.int .i64 (X:Int))):=Hd<|fun v hv=>(hv.cell (p:=⟨bi,oi,none⟩) bc).trans cx
  rw[←ar.1.cell (p:=⟨sb,so+q*3,none⟩) aR]at d0;rw[←ar.1.cell (p:=⟨sb,so+q*3+1,none⟩) aR]at d1;rw[←ar.1.cell (p:=⟨sb,so+q*3+2,none⟩) aR]at d2;have b6:=aJ ar.1 aR;have cw:X<C:=by have:=bd.1;omega
  obtain⟨aX,ah,bg,a5,bT,cj,ct⟩:=hd7 aZ bm hF hT hK bO bD;have cP:-1000<=KK/\KK<(ln:Int):=by have h1:=bT.1;have h2:=bE.1;have h3:=bd.1;omega
  clear aZ bm hF hT hK bY hX bO bD bt cx aM bC rI bz bR bh;obtain rfl:=cj.1;obtain rfl:=ct.1;obtain⟨q0,q1⟩:=ib (by omega:q<sn);have ae:=HS.1.pushBlk #[.int .i64 kd,.int .i64 it,.slice (some ⟨bi,oi,none⟩) im ic] 91;go_upto_region 7 with fail;obtain⟨gX,bo⟩:∃g,wr.heap.size=g:=⟨_,rfl⟩;rw[bo]at ae
  (try rw[bo])
  have Y:Hv (aD J (wr.alloc (.cells #[.int .i64 kd,.int .i64 it,.slice (some ⟨bi,oi,none⟩) im ic] 91)) [.cel (aI U) (.slice UA C C),eO gT ln (TK),.cel (ay (I)) (.slice A n c),.blk gX #[.int .i64 kd,.int .i64 it,.slice (some ⟨bi,oi,none⟩) im ic] 91]):=Hd ae;clear bo ae d0 d1 d2 b6 ar HS;generalize wr.alloc (.cells #[.int .i64 kd,.int .i64 it,.slice (some ⟨bi,oi,none⟩) im ic] 91)=W1 at *;obtain⟨x0,lx⟩:=yU ((Y.1.blk 3 rfl).1);by_cases aS:kd=0
  ·subst aS;have H:Hv (kZ l U (q+1)=I++[elF l U q]):=Hd<|by show _=_;rw[aX.1];exact if_pos rfl
   have a2:=Y.1.pushBlk #[.int .i64 (-1),.int .i64 (q:Int)] 94;go_upto_region 9 with fail;obtain⟨gE,a9⟩:∃g,W1.heap.size=g:=⟨_,rfl⟩;rw[a9]at a2
   (try rw[a9])
   have B:Hv (aD J (W1.alloc (.cells #[.int .i64 (-1),.int .i64 (q:Int)] 94)) [.cel (aI U) (.slice UA C C),eO gT ln (TK),.cel (ay (I)) (.slice A n c),.blk gX #[.int .i64 0,.int .i64 it,.slice (some ⟨bi,oi,none⟩) im ic] 91,.blk gE #[.int .i64 (-1),.int .i64 (q:Int)] 94]):=Hd a2;clear a9 a2 x0 lx Y;generalize W1.alloc (.cells #[.int .i64 (-1),.int .i64 (q:Int)] 94)=W2 at *;obtain⟨-,-,x2,lx⟩:=j6 ((B.1.blk 3 rfl).1);obtain⟨n0,n1,n2,n3,D⟩:=bA (aF B.1.bel G.1);have cx:=bV.1 _ (aA Q.1 B.1.bel);have aL:=aJ (aA Q.1 B.1.bel) bc;have cc:=Hd (fun(v:Sub W2)=>ny l.inputs (some ⟨sb,so,none⟩) LA OA sn sc ln lc on oc v.v (by omega) (by omega) (by omega));have cV:(0:Int)<(im:Int):=by omega
   have cr:=bT.1.symm;have a3:IntKind.i64.wrap KK=KK:=IntWalk.i64_in _ (by omega);have bG:=dB W2;have ca:=au W2;refine wpB W2 ?_
   repeat(go_big_quiet_step ((first
    | (go_at_call 177;with_reducible exact aV (cc.1 _)))))
   refine wpQuiet_nil ?_;rintro wq ⟨⟨w6,hD⟩,hw⟩;replace hw:wq=w6:=hw;subst hw;have z:=Hd (B.1.below hD);clear bG ca cr a3 cx aL x2 lx hD B n0 n1 n2 n3 D;obtain⟨W3,rfl⟩:∃y,y=wq:=⟨wq,rfl⟩;obtain⟨-,-,x2,lx⟩:=j6 ((z.1.blk 3 rfl).1);have hb:=(z.1.blk 4 rfl).1;obtain⟨e0,e1⟩:=cs2 hb;have bj:=aN hb 0;have be:=aN hb 1;have le:=aH hb;clear hb;have cx:=bV.1 _ (aA Q.1 z.1.bel);have aL:=aJ (aA Q.1 z.1.bel) bc;obtain⟨bu,ou,bM,cM,bv⟩:=(z.1.ints 0 rfl).2 (by omega);have cu:=bv X cw;obtain⟨u,hu⟩:∃u,U[X]?.getD 0=u:=⟨_,rfl⟩;rw[hu]at cu;obtain⟨HU,cm⟩:=hd2 hu bM;clear hu bM bv;obtain rfl:=cm.1;obtain⟨X0,X1⟩:=ib (by omega:X<C);by_cases ak:0<=KK
   focus
    have dk:decide (KK≥0)=true:=decide_eq_true ak;by_cases aC:u=1
    ·have du:(u==1)=true:=by simp[aC]
     have bs:Hv (ffT l U q):=Hd<|a5.1.2 ⟨ak,by rw[HU.1];exact aC⟩
     obtain⟨K,rfl⟩:∃K:Nat,KK=(K:Int):=⟨_,(Int.toNat_of_nonneg ak).symm⟩;have av:Hv (elF l U q=⟨(K:Int),(q:Int)⟩):=Hd<|by show _=_;rw[bg.1,if_pos bs.1]
     rw[av.1]at H;have ag:Hv (jA l U (q+1)=TK++[(K:Int)]):=Hd<|by show _=_;rw[ah.1];exact if_pos ⟨rfl,bs.1⟩
     have b8:Hv (aD J (W3.setCell ⟨gE,0,none⟩ (.int .i64 (K:Int))) [.cel (aI U) (.slice (some ⟨bu,ou,none⟩) C C),eO gT ln (TK),.cel (ay (I)) (.slice A n c),.blk gX #[.int .i64 0,.int .i64 it,.slice (some ⟨bi,oi,none⟩) im ic] 91,.blk gE #[.int .i64 ((K:Int)),.int .i64 (q:Int)] 94]):=Hd (z.1.put 4 rfl 0 (.int .i64 (K:Int)));obtain⟨K0,K1⟩:=ib (by omega:K<ln);have K2:K<ln:=by omega
     go_upto_region 12 with fail;generalize W3.setCell ⟨gE,0,none⟩ (.int .i64 (K:Int))=W4 at *;obtain⟨t0,tf,⟨_,tl⟩,ht⟩:=b8.1.truth 1 rfl K2;have bP:Hv (aD J (W4.setCell ⟨gT,K,none⟩ (.bool true)) [.cel (aI U) (.slice (some ⟨bu,ou,none⟩) C C),eO gT ln (TK++[(K:Int)]),.cel (ay (I)) (.slice A n c),.blk gX #[.int .i64 0,.int .i64 it,.slice (some ⟨bi,oi,none⟩) im ic] 91,.blk gE #[.int .i64 ((K:Int)),.int .i64 (q:Int)] 94]):=Hd ht;clear x2 lx e0 e1 bj be le cx aL cu ht z;go_upto_region 13 with fail;clear t0 tf tl;generalize W4.setCell ⟨gT,K,none⟩ (.bool true)=W5 at *;obtain⟨e0,e1,le⟩:=iC ((bP.1.blk 4 rfl).1)
     go_wp2_with (at_builtin;refine af rfl _ _ 87 94 rfl R _ 2 16 Tryz.underlying87 j.1.1 j.1.2.1 j.1.2.2.1 j.1.2.2.2 rfl (by decide) (by decide) _ ((bP.1.alloc _).consPin ((K:Int)) ((q:Int))) 3 0 (by decide) n c _ A ((I).flatMap LeT.cells) _ #[.int .i64 ((K:Int)),.int .i64 ((q:Int))] _ rfl rfl rfl rfl (aG _ _) rfl (by omega) ?_;intro g9 cap w9 S9 ad)
     have V:Hv (aD J w9 (.cels [] []::[.cel (aI U) (.slice (some ⟨bu,ou,none⟩) C C),eO gT ln (TK++[(K:Int)]),.cel (ay (I++[⟨(K:Int),(q:Int)⟩])) (.slice (some ⟨g9,0,none⟩) (n+1) cap),.blk gX #[.int .i64 0,.int .i64 it,.slice (some ⟨bi,oi,none⟩) im ic] 91,.blk gE #[.int .i64 ((K:Int)),.int .i64 (q:Int)] 94])):=Hd (by have h9:=S9;rw[←nL]at h9;exact h9);clear S9 ad;go_roundw
     ·exact⟨q+1,_,n+1,_,by omega,by omega,by go_num,rfl,by rw[H.1,ag.1];exact V.1.sub (List.Sublist.cons _ (List.Sublist.cons_cons _ (List.Sublist.cons_cons _ (List.Sublist.cons_cons _ (List.nil_sublist _)))))⟩
     simp[intOf];omega
    have du:(u==1)=false:=by simp[aC]
    have Z:¬ffT l U q:=fun h=>aC (by rw[←HU.1];exact(a5.1.1 h).2);have av:Hv (elF l U q=⟨-1,(q:Int)⟩):=Hd<|by show _=_;rw[bg.1,if_neg Z]
    rw[av.1]at H;have ag:Hv (jA l U (q+1)=TK):=Hd<|by show _=_;rw[ah.1];exact if_neg fun h=>Z h.2
    clear Z aC
   rotate_left
   focus
    have dk:decide (KK≥0)=false:=decide_eq_false ak;have Z:¬ffT l U q:=fun h=>ak (a5.1.1 h).1;have av:Hv (elF l U q=⟨-1,(q:Int)⟩):=Hd<|by show _=_;rw[bg.1,if_neg Z]
    rw[av.1]at H;have ag:Hv (jA l U (q+1)=TK):=Hd<|by show _=_;rw[ah.1];exact if_neg fun h=>Z h.2
    clear Z ak
   all_goals
    go_upto_region 13 with fail;clear x2 lx e0 e1 bj be le cx aL cu;obtain⟨e0,e1,le⟩:=iC ((z.1.blk 4 rfl).1)
    go_wp2_with (at_builtin;refine af rfl _ _ 87 94 rfl R _ 2 16 Tryz.underlying87 j.1.1 j.1.2.1 j.1.2.2.1 j.1.2.2.2 rfl (by decide) (by decide) _ ((z.1.alloc _).consPin (-1) ((q:Int))) 3 0 (by decide) n c _ A ((I).flatMap LeT.cells) _ #[.int .i64 (-1),.int .i64 ((q:Int))] _ rfl rfl rfl rfl (aG _ _) rfl (by omega) ?_;intro g9 cap w9 S9 ad)
    have V:Hv (aD J w9 (.cels [] []::[.cel (aI U) (.slice (some ⟨bu,ou,none⟩) C C),eO gT ln (TK),.cel (ay (I++[⟨-1,(q:Int)⟩])) (.slice (some ⟨g9,0,none⟩) (n+1) cap),.blk gX #[.int .i64 0,.int .i64 it,.slice (some ⟨bi,oi,none⟩) im ic] 91,.blk gE #[.int .i64 (-1),.int .i64 (q:Int)] 94])):=Hd (by have h9:=S9;rw[←nL]at h9;exact h9);clear S9 ad;go_roundw
    ·exact⟨q+1,_,n+1,_,by omega,by omega,by go_num,rfl,by rw[H.1,ag.1];exact V.1.sub (List.Sublist.cons _ (List.Sublist.cons_cons _ (List.Sublist.cons_cons _ (List.Sublist.cons_cons _ (List.nil_sublist _)))))⟩
    simp[intOf];omega
  have c2:(kd != 0)=true:=by simp[aS]
  have H:Hv (kZ l U (q+1)=I):=Hd<|by show _=_;rw[aX.1];exact if_neg aS
  have ag:Hv (jA l U (q+1)=TK):=Hd<|by show _=_;rw[ah.1];exact if_neg fun h=>aS h.1
  go_wp2;go_roundw
  ·exact⟨q+1,_,n,_,by omega,by omega,by go_num,rfl,by rw[H.1,ag.1];exact Y.1.sub (List.sublist_append_left _ [_])⟩
  simp[intOf];omega
 have bW:sn=q:=by omega
 have ch:=dF (by omega:sn<=q);obtain⟨TA,bH⟩:∃y,jA l U l.seqs.length=y:=⟨_,rfl⟩;have bQ:=Hd bH
 have B:Hv (aD J wr [.cel (aI U) (.slice UA C C),eO gT ln (TA),.cel (ay (kJ l U 0)) (.slice A n c)]):=Hd<|by
  show aD _ _ _;rw[←bQ.1,show kJ l U 0=kZ l U l.seqs.length from rfl,bI.1,bW];exact HS.1
 clear bH bW HS;obtain⟨n0,n1,n2,n3,D⟩:=bA (aF B.1.bel G.1);go_wp2_with fail;clear n0 n1 n2 n3 D;obtain⟨wb,rfl⟩:∃y,y=wr:=⟨wr,rfl⟩
 go_loopw[5,62] (fun v i wr=>∃(k:Nat) (A:Oh) (n c:Nat),k<=ln/\n<=k+12/\i=.int .i64 (k:Int)/\v=.slice A n c/\aD J wr [.cel (aI U) (.slice UA C C),eO gT ln (TA),.cel (ay (kJ l U k)) (.slice A n c)]) (fun _ i _=>ln-(intOf i).toNat)
 ·exact⟨0,A,n,c,by omega,by omega,rfl,rfl,B.1⟩
 obtain⟨k,A,n,c,hk,c1,rfl,rfl,hs⟩:=hrel;have HS:=Hd hs;clear hs;by_cases bb:k<ln
 ·have ci:=dT (by omega:k<ln);have bk:kJ l U (k+1)=if(k:Int)∈TA then kJ l U k else kJ l U k++[⟨(k:Int),-1⟩]:=by rw[←bQ.1];rfl
  obtain⟨I,aM⟩:∃y,kJ l U k=y:=⟨_,rfl⟩;rw[aM]at bk HS;have G:=Hd bk;clear bk aM;obtain⟨t0,tf,⟨_,tl⟩,_⟩:=HS.1.truth 1 rfl bb;obtain⟨i0,i1⟩:=ib (by omega:k<ln);by_cases hm:(k:Int)∈TA
  ·have dm:decide ((k:Int)∈TA)=true:=decide_eq_true hm;have ap:Hv (kJ l U (k+1)=I):=Hd<|by show _=_;rw[G.1];exact if_pos hm
   rw[dm]at t0;clear hm dm;go_wp2;go_roundw
   ·exact⟨k+1,_,n,_,by omega,by omega,by go_num,rfl,by rw[ap.1];exact HS.1⟩
   simp[intOf];omega
  have dm:decide ((k:Int)∈TA)=false:=decide_eq_false hm;have ap:Hv (kJ l U (k+1)=I++[⟨(k:Int),-1⟩]):=Hd<|by show _=_;rw[G.1];exact if_neg hm
  rw[dm]at t0;clear hm dm;go_upto_region 19 with fail;clear t0 tf tl
  go_wp2_with (at_builtin;refine af rfl _ _ 87 94 rfl R _ 2 16 Tryz.underlying87 j.1.1 j.1.2.1 j.1.2.2.1 j.1.2.2.2 rfl (by decide) (by decide) _ ((HS.1.alloc _).consPin ((k:Int)) (-1)) 3 0 (by decide) n c _ A ((I).flatMap LeT.cells) _ #[.int .i64 ((k:Int)),.int .i64 (-1)] _ rfl rfl rfl rfl (aG _ _) rfl (by omega) ?_;intro g9 cap w9 S9 ad)
  have V:Hv (aD J w9 (.cels [] []::[.cel (aI U) (.slice UA C C),eO gT ln (TA),.cel (ay (I++[⟨(k:Int),-1⟩])) (.slice (some ⟨g9,0,none⟩) (n+1) cap)])):=Hd (by have h9:=S9;rw[←nL]at h9;exact h9);clear S9 ad;go_roundw
  ·exact⟨k+1,_,n+1,_,by omega,by omega,by go_num,rfl,by rw[ap.1];exact V.1.sub (List.sublist_cons_self _ _)⟩
  simp[intOf];omega
 have bw:ln=k:=by omega
 have ci:=dF (by omega:ln<=k)
 have HR:Hv (aD w wr [.cel (ay (els l)) (.slice A n c)]):=Hd<|by
  have h1:=(HS.1.sub (List.Sublist.cons _ (List.Sublist.cons _ (List.Sublist.cons_cons _ (List.nil_sublist _))))).lowerC Q.1 (lo:=J.heap.size) (hi:=J.heap.size) Q.1.size (Nat.le_refl _) (Chg.refl' _ _ _);show aD _ _ _;unfold els;rw[cd.1,cn.1,bw];exact h1
 clear bw;go_wp2;go_ret;exact⟨_,_,_,rfl,HR.1⟩
end Go.Proofs.YtofihjoanjkdmaaGreat
