/- Drawing a place and a region, of the reference. -/
import Derived.Deep.CutRange
import Derived.Deep.DeepCutAuto
import Derived.Test.YtignkfhdkcgkgaaGreatBeS
import Derived.Test.YtignkfhdkcgkgaaGreatDrwQ
import Derived.Test.YtignkfhdkcgkgaaGreatSpS
import Derived.Test.YtignkfhdkcgkgaaGreatWrS
namespace Go.Proofs.YtignkfhdkcgkgaaGreat
set_option maxHeartbeats 8000000
set_option maxRecDepth 100000
open Go.RowKit
theorem wm (x:Int) (w:World) (h:1<=x/\x<=6) :
  Calls Tryz.prog 153 #[.int .i64 x,.int .i64 1,.int .i64 6] w fun e w'=>e = .returned (.int .i64 x)/\w=w':=by
 have h0:decide (x<1)=false:=by simp;omega
 have h1:decide (x>6)=false:=by simp;omega
 go_enter Tryz.func153,Tryz.ntmps153
 go_wp2_with fail
 go_ret
 exact ⟨rfl,rfl⟩
theorem BX {w:World} {a b c d f:Int} (j:Nat) (hj:j<5):∃y:Int,True/\(w.alloc (.cells #[.int .i64 a,.int .i64 b,.int .i64 c,.int .i64 d,.int .i64 f] 3)).cell? ⟨w.heap.size,j,none⟩=some (.int .i64 y):=by
 have h:j=0∨j=1∨j=2∨j=3∨j=4:=by omega
 rcases h with rfl|rfl|rfl|rfl|rfl
 ·exact ⟨_,trivial,aC (aK _ _) rfl⟩
 ·exact ⟨_,trivial,aC (aK _ _) rfl⟩
 ·exact ⟨_,trivial,aC (aK _ _) rfl⟩
 ·exact ⟨_,trivial,aC (aK _ _) rfl⟩
 ·exact ⟨_,trivial,aC (aK _ _) rfl⟩
theorem pV (m:Nat) (g B:Nat) (A:Option Addr) (n c:Nat) (bs:List Int) (w:World) (h:Cur w g B A n c bs) (hn:n<=1099511627776) (hm:0<m/\m<=100) :
  Calls Tryz.prog 154 #[.pointer (some ⟨g,0,none⟩),.int .i64 m] w fun e w'=>∃x:Int,e = .returned (.int .i64 x)/\Cur w' g B A n c bs/\w.grownBy w' (some g):=by
 have hgw:g<w.heap.size:=h.lt
 have HC:=Hd h
 clear h
 go_enter Tryz.func154,Tryz.ntmps154
 go_wp2_with fail
 refine (fB g B A n c bs 15 _ HC.out hn (by omega) (by omega)).mono ?_
 rintro e w1 ⟨b,rfl,k1,g1⟩
 have K1:=Hd k1
 have G1:=Hd g1
 have hs1:=g1.size
 clear k1 g1
 cases b with
 | false =>
  go_wp2_with fail
  refine (aj g B A n c bs m _ K1.out hn (by omega) (by omega)).mono ?_
  rintro e w2 ⟨x,rfl,hx0,hx1,k2,g2⟩
  have K2:=Hd k2
  have G2:=Hd g2
  clear k2 g2
  go_wp2_with fail
  go_ret
  exact ⟨_,rfl,K2.out,aO G1.out G2.out⟩
 | true =>
  have a1:IntKind.i64.wrap ((m:Int)+1)=(m:Int)+1:=IntWalk.i64_in _ (by omega)
  have HP:=Hd (fun j hj=>BX (w:=w1) (a:=-1) (b:=(m:Int)) (c:=(m:Int)+1) (d:=9223372036854775807) (f:=-9223372036854775808) j hj)
  have HB2:=Hd (aB (Below.refl w1.heap.size w1) (.cells #[.int .i64 (-1),.int .i64 (m:Int),.int .i64 ((m:Int)+1),.int .i64 9223372036854775807,.int .i64 (-9223372036854775808)] 3))
  go_wp2_with fail
  refine (sH (fun _=>True) g B A n c bs w1.heap.size 5 5 _ (K1.out.below HB2.out) hn (by omega) (by omega) (by omega) (by simp) HP.out).mono ?_
  rintro e w2 ⟨x,rfl,-,k2,g2⟩
  have K2:=Hd k2
  have G2:=Hd (aO (bG G1.out HB2.out (by omega)) g2)
  clear k2 g2
  go_wp2_with fail
  go_ret
  exact ⟨_,rfl,K2.out,G2.out⟩
theorem rY (g B:Nat) (A:Option Addr) (n c:Nat) (bs:List Int) (d:Dev) (w:World) (h:Cur w g B A n c bs) (hn:n<=1099511627776) (hd:bL d=true) :
  Calls Tryz.prog 88 #[.pointer (some ⟨g,0,none⟩),.agg #[.int .i64 d.W,.int .i64 d.H,.int .i64 d.T,.int .i64 d.R]] w fun e w'=>∃r:Reg,e = .returned (.agg #[.int .i64 r.X0,.int .i64 r.Y0,.int .i64 r.X1,.int .i64 r.Y1])/\Cur w' g B A n c bs/\w.grownBy w' (some g):=by
 have hgw:g<w.heap.size:=h.lt
 have HC:=Hd h
 have hb:=ah hd
 have B0:=Hd (aB (aB (Below.refl w.heap.size w) (.cells #[.int .i64 d.W,.int .i64 d.H,.int .i64 d.T,.int .i64 d.R] 25)) (.cells #[.int .i64 0,.int .i64 0,.int .i64 0,.int .i64 0] 29))
 have X0:=Hd (aW (.cells #[.int .i64 0,.int .i64 0,.int .i64 0,.int .i64 0] 29) (aK w (.cells #[.int .i64 d.W,.int .i64 d.H,.int .i64 d.T,.int .i64 d.R] 25)))
 have Y0:Hid (((w.alloc (.cells #[.int .i64 d.W,.int .i64 d.H,.int .i64 d.T,.int .i64 d.R] 25)).alloc (.cells #[.int .i64 0,.int .i64 0,.int .i64 0,.int .i64 0] 29)).heap[w.heap.size+1]?=some (.cells #[.int .i64 0,.int .i64 0,.int .i64 0,.int .i64 0] 29 (0,0))):=ax (by simp)
 clear h hd
 go_enter Tryz.func88,Tryz.ntmps88
 go_wp2_with fail
 refine (wm d.W _ (by omega)).mono ?_
 rintro e w1 ⟨rfl,rfl⟩
 go_wp2_with fail
 refine (aj g B A n c bs d.W _ (HC.out.below B0.out) hn (by omega) (by omega)).mono ?_
 rintro e w1 ⟨x,rfl,hx0,hx1,k1,g1⟩
 have hs1:=g1.size
 simp only [World.size_alloc] at hs1
 have X1:=Hd ((aY g1 (aG X0.out) (by omega)).trans X0.out)
 have Y1:=Hd ((aY g1 (aG Y0.out) (by omega)).trans Y0.out)
 have K1:=Hd k1
 have G1:=Hd (aO (bX B0.out _) g1)
 clear k1 g1
 obtain ⟨z0,z1,z2,z3⟩:=dK X1.out
 go_wp2_with fail
 refine (wm d.H _ (by omega)).mono ?_
 rintro e w2 ⟨rfl,rfl⟩
 go_wp2_with fail
 refine (aj g B A n c bs d.H _ K1.out hn (by omega) (by omega)).mono ?_
 rintro e w2 ⟨y,rfl,hy0,hy1,k2,g2⟩
 have hs2:=g2.size
 have Y2:=Hd ((aY g2 (aG Y1.out) (by omega)).trans Y1.out)
 have K2:=Hd k2
 have G2:=Hd (aO G1.out g2)
 clear k2 g2 z0 z1 z2 z3
 go_wp2_with fail
 refine (aj g B A n c bs 2 _ K2.out hn (by omega) (by omega)).mono ?_
 rintro e w3 ⟨x1,rfl,hp0,hp1,k3,g3⟩
 have hs3:=g3.size
 have Y3:=Hd ((aY g3 (aG Y2.out) (by omega)).trans Y2.out)
 have K3:=Hd k3
 have G3:=Hd (aO G2.out g3)
 clear k3 g3
 go_wp2_with fail
 refine (aj g B A n c bs 2 _ K3.out hn (by omega) (by omega)).mono ?_
 rintro e w4 ⟨y1,rfl,hq0,hq1,k4,g4⟩
 have hs4:=g4.size
 have Y4:=Hd ((aY g4 (aG Y3.out) (by omega)).trans Y3.out)
 have a1:IntKind.i64.wrap (x+x1)=x+x1:=IntWalk.i64_in _ (by omega)
 have a2:IntKind.i64.wrap (y+y1)=y+y1:=IntWalk.i64_in _ (by omega)
 have K4:=Hd k4
 have G4:=Hd (aO G3.out g4)
 clear k4 g4
 go_wp2_with fail
 generalize hr1:x+x1=rx at *
 generalize hr2:y+y1=ry at *
 clear a1 a2 hr1 hr2
 have hb5:Below w4.heap.size w4 (w4.alloc (.cells #[.int .i64 x,.int .i64 y,.int .i64 rx,.int .i64 ry] 29)):=aB (Below.refl _ _) _
 have hsz5:(w4.alloc (.cells #[.int .i64 x,.int .i64 y,.int .i64 rx,.int .i64 ry] 29)).heap.size=w4.heap.size+1:=by simp
 have Z5:=Hd (aK w4 (.cells #[.int .i64 x,.int .i64 y,.int .i64 rx,.int .i64 ry] 29))
 have Y5:=Hd (aJ hb5 Y4.out)
 have K5:=Hd (K4.out.below hb5)
 have G5:=Hd (bG G4.out hb5 (by omega))
 clear hb5
 generalize hW5:(w4.alloc (.cells #[.int .i64 x,.int .i64 y,.int .i64 rx,.int .i64 ry] 29))=w5 at *
 generalize hgr:w4.heap.size=gr at *
 clear hW5 hgr
 refine (fB g B A n c bs 14 _ K5.out hn (by omega) (by omega)).mono ?_
 rintro e w6 ⟨q,rfl,k6,g6⟩
 have hs6:=g6.size
 have Z6:=Hd ((aY g6 (aG Z5.out) (by omega)).trans Z5.out)
 have Y6:=Hd ((aY g6 (aG Y5.out) (by omega)).trans Y5.out)
 have K6:=Hd k6
 have G6:=Hd (aO G5.out g6)
 clear k6 g6
 cases q with
 | false =>
  obtain ⟨p0,p1,p2,p3⟩:=dK Z6.out
  obtain ⟨y0,y1,y2,y3⟩:=dK Y6.out
  have f0:=fun k=>aF Y6.out k
  have f00:=f0 0
  have f01:=f0 1
  have f02:=f0 2
  have f03:=f0 3
  have l1:=aG Y6.out
  clear f0
  go_wp2_with fail
  have hE:=yf (u0 := .int .i64 x) (u1 := .int .i64 y) (u2 := .int .i64 rx) (u3 := .int .i64 ry) Y6.out
  have hw1:w.heap.size<=w.heap.size+1:=Nat.le_succ _
  have hg1:g<w.heap.size+1:=by omega
  refine bodyPost_ret (v := .agg #[.int .i64 x,.int .i64 y,.int .i64 rx,.int .i64 ry]) (bZ Tryz.results88 rfl hE Tryz.underlying29 (by kernel_rfl)) rfl ⟨⟨x,y,rx,ry⟩,rfl,?_,?_⟩
  ·exact (((K6.out.setNew hg1 _ _).setNew hg1 _ _).setNew hg1 _ _).setNew hg1 _ _
  ·exact aP (aP (aP (aP G6.out hw1 _ _) hw1 _ _) hw1 _ _) hw1 _ _
 | true =>
  go_wp2_with fail
  refine (pV 4 g B A n c bs _ K6.out hn (by omega)).mono ?_
  rintro e w7 ⟨xp,rfl,k7,g7⟩
  have hs7:=g7.size
  replace Z6:=Hd ((aY g7 (aG Z6.out) (by omega)).trans Z6.out)
  replace Y6:=Hd ((aY g7 (aG Y6.out) (by omega)).trans Y6.out)
  replace K6:=Hd k7
  replace G6:=Hd (aO G6.out g7)
  clear k7 g7
  have ZA:=Hd (bH (k:=0) (cs':=#[.int .i64 xp,.int .i64 y,.int .i64 rx,.int .i64 ry]) Z6.out (.int .i64 xp) rfl)
  have YA:=Hd (fC (p:=⟨gr,0,none⟩) Y6.out (by show w.heap.size+1≠gr;omega) (.int .i64 xp))
  have KA:=Hd (K6.out.setNew (b:=gr) (by omega) 0 (.int .i64 xp))
  have GA:=Hd (aP G6.out (b:=gr) (by omega) 0 (.int .i64 xp))
  have hsA:(w7.setCell ⟨gr,0,none⟩ (.int .i64 xp)).heap.size=w7.heap.size:=by simp [World.setCell]
  have p0:=aC (k:=0) Z6.out rfl
  have q0:=aF Z6.out 0
  have l0:=aG Z6.out
  go_upto_region 6 with fail
  clear p0 q0 l0 Z6 Y6 K6 G6
  generalize hW8:(w7.setCell ⟨gr,0,none⟩ (.int .i64 xp))=w8 at *
  clear hW8
  have Z6:=ZA
  have Y6:=YA
  have K6:=KA
  have G6:=GA
  clear ZA YA KA GA
  obtain ⟨p0,p1,p2,p3⟩:=dK Z6.out
  obtain ⟨y0,y1,y2,y3⟩:=dK Y6.out
  have f0:=fun k=>aF Y6.out k
  have f00:=f0 0
  have f01:=f0 1
  have f02:=f0 2
  have f03:=f0 3
  have l1:=aG Y6.out
  clear f0
  go_wp2_with fail
  have hE:=yf (u0 := .int .i64 xp) (u1 := .int .i64 y) (u2 := .int .i64 rx) (u3 := .int .i64 ry) Y6.out
  have hw1:w.heap.size<=w.heap.size+1:=Nat.le_succ _
  have hg1:g<w.heap.size+1:=by omega
  refine bodyPost_ret (v := .agg #[.int .i64 xp,.int .i64 y,.int .i64 rx,.int .i64 ry]) (bZ Tryz.results88 rfl hE Tryz.underlying29 (by kernel_rfl)) rfl ⟨⟨xp,y,rx,ry⟩,rfl,?_,?_⟩
  ·exact (((K6.out.setNew hg1 _ _).setNew hg1 _ _).setNew hg1 _ _).setNew hg1 _ _
  ·exact aP (aP (aP (aP G6.out hw1 _ _) hw1 _ _) hw1 _ _) hw1 _ _
theorem pW (g B:Nat) (A:Option Addr) (n c:Nat) (bs:List Int) (d:Dev) (w:World) (h:Cur w g B A n c bs) (hn:n<=1099511627776) (hd:bL d=true) :
  Calls Tryz.prog 98 #[.pointer (some ⟨g,0,none⟩),.agg #[.int .i64 d.W,.int .i64 d.H,.int .i64 d.T,.int .i64 d.R]] w fun e w'=>∃(ws:List Int) (A':Option Addr) (n' c':Nat),e = .returned (.slice A' n' c')/\n'<=11/\Own w.heap.size w' A' n' c' ws/\Cur w' g B A n c bs/\w.grownBy w' (some g):=by
 have hgw:g<w.heap.size:=h.lt
 have HC:=Hd h
 have HD:=Hd hd
 have hfb:=jG hd
 have HFW:=Hd (fun w=>iq d w hd)
 obtain ⟨M,hM⟩:∃M:Nat,fwI d=(M:Int):=⟨(fwI d).toNat,by omega⟩
 rw [hM] at hfb HFW
 have B0:=Hd (aB (Below.refl w.heap.size w) (.cells #[.int .i64 d.W,.int .i64 d.H,.int .i64 d.T,.int .i64 d.R] 25))
 have X0:=Hd (aW (.cells #[] 3) (aK w (.cells #[.int .i64 d.W,.int .i64 d.H,.int .i64 d.T,.int .i64 d.R] 25)))
 have B1:=Hd (aB B0.out (.cells #[] 3))
 have N1:=Hd (Own.newAt (w:=(w.alloc (.cells #[.int .i64 d.W,.int .i64 d.H,.int .i64 d.T,.int .i64 d.R] 25))) (base:=w.heap.size+1) (g:=w.heap.size+1) (by simp) (by simp))
 clear h hd hM
 go_enter Tryz.func98,Tryz.ntmps98
 go_wp2_with fail
 go_loopw [5,6] (fun v i wr=>∃(k:Nat) (ps:List Int) (A':Option Addr) (c':Nat),k<=M/\i = .int .i64 k/\v = .slice A' k c'/\ps.length=k/\Own (w.heap.size+1) wr A' k c' ps/\Cur wr g B A n c bs/\w.grownBy wr (some g)/\wr.heap[w.heap.size]?=some (.cells #[.int .i64 d.W,.int .i64 d.H,.int .i64 d.T,.int .i64 d.R] 25 (0,0))/\w.heap.size+1<wr.heap.size) (fun _ i _=>M - (intOf i).toNat)
 case atStart=>exact ⟨0,[],_,0,Nat.zero_le _,rfl,rfl,rfl,N1.out,HC.out.below B1.out,bX B1.out _,X0.out,by simp⟩
 case round =>
  obtain ⟨k,ps,A',c',hk,rfl,rfl,hpl,ho,hcu,hgw',hx,hsz⟩:=hrel
  have HO:=Hd ho
  have KC:=Hd hcu
  have HG:=Hd hgw'
  have HX:=Hd hx
  have HPL:=Hd hpl
  clear ho hcu hgw' hx hpl
  obtain ⟨z0,z1,z2,z3⟩:=dK HX.out
  by_cases hlt:k<M
  ·have hdk:decide ((k:Int)<(M:Int))=true:=by simp;omega
   go_wp2_with fail
   refine (HFW.out _).mono ?_
   rintro e w4 ⟨rfl,b4⟩
   have hs4:=b4.size
   replace KC:=Hd (KC.out.below b4)
   replace HO:=Hd (HO.out.below b4)
   replace HG:=Hd (bG HG.out b4 (by omega))
   replace HX:=Hd (aJ b4 HX.out)
   clear b4 z0 z1 z2 z3
   go_wp2_with fail
   refine (aj g B A n c bs 65536 _ KC.out hn (by omega) (by omega)).mono ?_
   rintro e w5 ⟨x,rfl,hx,hx',k5,g5⟩
   replace HO:=Hd (HO.out.grownC g5 (by omega))
   replace HG:=Hd (aO HG.out g5)
   replace HX:=Hd ((aY g5 (aG HX.out) (by omega)).trans HX.out)
   replace KC:=Hd k5
   have hs5:=g5.size
   clear k5 g5
   go_wp2_with (at_builtin;refine av rfl _ _ rfl (w.heap.size+1) A' k c' ps _ rfl HO.out rfl (by omega) (by omega) (Below.refl (w.heap.size+1) _) ?_;rintro g4 cap w4 o4 b4 gr4 hat4)
   go_roundw
   case rel=>exact ⟨k+1,ps++[x],_,_,by omega,by go_num,rfl,by rw [List.length_append,HPL.out];rfl,o4,KC.out.keepB b4 (by omega),bG HG.out b4 (by omega),(b4.block _ (by omega)).trans HX.out,by have:=b4.size;omega⟩
   case measure=>simp [intOf];omega
  ·have hkm:k=M:=by omega
   subst hkm
   have hdk:decide ((k:Int)<(k:Int))=false:=by simp
   clear hlt hk
   go_wp2_with fail
   refine (HFW.out _).mono ?_
   rintro e w4 ⟨rfl,b4⟩
   replace KC:=Hd (KC.out.below b4)
   replace HO:=Hd (HO.out.below b4)
   replace HG:=Hd (bG HG.out b4 (by omega))
   clear b4 z0 z1 z2 z3
   go_wp2_with fail
   go_ret
   exact ⟨ps,_,_,_,rfl,by omega,HO.out.more (by omega),KC.out,HG.out⟩
theorem qV (g B:Nat) (A:Option Addr) (n c:Nat) (bs:List Int) (b:Bd) (s:Sl3) (w:World) (h:Cur w g B A n c bs) (hn:n<=1099511627776) :
  Calls Tryz.prog 97 #[.pointer (some ⟨g,0,none⟩),.agg (aD b s)] w fun e w'=>∃t:Int,e = .returned (.int .i64 t)/\Cur w' g B A n c bs/\w.grownBy w' (some g):=by
 have hgw:g<w.heap.size:=h.lt
 have HC:=Hd h
 have B0:=Hd (aB (Below.refl w.heap.size w) (.cells (aD b s) 31))
 clear h
 obtain ⟨d,fs,st,ph,r,sv⟩:=b
 obtain ⟨A1,n1,c1,A2,n2,c2,A3,n3,c3⟩:=s
 go_enter Tryz.func97,Tryz.ntmps97
 go_wp2_with fail
 refine (iM d r _).mono ?_
 rintro e w1 ⟨A4,m4,c4,rfl,o4,b4⟩
 have hs4:=b4.size
 simp only [World.size_alloc] at hs4
 have hl4:=o4.ints.1
 have hm4:m4<=36:=by have:=iT d r;omega
 have B1:=Hd (aA B0.out b4)
 have K1:=Hd (HC.out.below B1.out)
 have O1:=Hd (o4.more (base':=w.heap.size+1) (by simp))
 clear b4 o4 hl4
 by_cases h0:m4=0
 ·subst h0
  go_wp2_with fail
  refine (pV 9 g B A n c bs _ K1.out hn (by omega)).mono ?_
  rintro e w2 ⟨x,rfl,k2,g2⟩
  have K2:=Hd k2
  have G2:=Hd (aO (bX B1.out _) g2)
  clear k2 g2
  go_wp2_with fail
  go_ret
  exact ⟨_,rfl,K2.out,G2.out⟩
 ·have hm0:((m4:Int)==0)=false:=by simp;omega
  go_wp2_with fail
  refine (fB g B A n c bs 6 _ K1.out hn (by omega) (by omega)).mono ?_
  rintro e w2 ⟨q,rfl,k2,g2⟩
  have hs2:=g2.size
  have K2:=Hd k2
  have O2:=Hd (O1.out.grownC g2 (by omega))
  have G2:=Hd (aO (bX B1.out _) g2)
  clear k2 g2
  cases q with
  | true =>
   go_wp2_with fail
   refine (pV 9 g B A n c bs _ K2.out hn (by omega)).mono ?_
   rintro e w3 ⟨x,rfl,k3,g3⟩
   have K3:=Hd k3
   have G3:=Hd (aO G2.out g3)
   clear k3 g3
   go_wp2_with fail
   go_ret
   exact ⟨_,rfl,K3.out,G3.out⟩
  | false =>
   go_wp2_with fail
   refine (aj g B A n c bs m4 _ K2.out hn (by omega) (by omega)).mono ?_
   rintro e w3 ⟨x,rfl,hx0,hx1,k3,g3⟩
   have O3:=Hd (O2.out.grownC g3 (by omega))
   have K3:=Hd k3
   have G3:=Hd (aO G2.out g3)
   clear k3 g3
   obtain ⟨ba,oa,rfl,hbl,hc⟩:=O3.out.ints.2 (by omega)
   obtain ⟨k,rfl⟩:∃k:Nat,x=k:=⟨x.toNat,by omega⟩
   have hck:=hc k (by omega)
   clear hc
   go_wp2_with fail
   go_ret
   exact ⟨_,rfl,K3.out,G3.out⟩
open Cw
theorem rf {b:Bd} (h1:ae b.dev b.frames=true) (h2:ja b.dev b.state=true) (h3:((b.phase=0∨b.phase=2)/\b.reg=rZ/\b.saved=[])∨(b.phase=1/\rqF b.dev b.saved b.reg=true)):bkF b=true:=by
 unfold bkF
 rw [h1,h2]
 rcases h3 with ⟨hp,hr,hs⟩|⟨hp,hr⟩
 ·rw [if_pos hp,hr,hs];rfl
 ·rw [if_neg (by omega),hp,hr];rfl
theorem zq {b:Bd} (h:bkF b=true):((b.phase=0∨b.phase=2)/\b.reg=rZ/\b.saved=[])∨(b.phase=1/\rqF b.dev b.saved b.reg=true):=by
 obtain ⟨_,_,hp,h1,h2⟩:=bz h
 rcases hp with hp|hp|hp
 ·exact .inl ⟨.inl hp,h2 (by omega)⟩
 ·exact .inr ⟨hp,h1 hp⟩
 ·exact .inl ⟨.inr hp,h2 (by omega)⟩
theorem Hl {d:Dev} {old:List Int} (ho:Al d old) (ts:List Int):∀{l:List Int},Al d l→Al d (ovS old ts l):=by
 induction ts with
 | nil=>intro l h;exact h
 | cons t ts ih=>intro l h;exact ih (l:=(l.set (2 * t.toNat) (old[2 * t.toNat]?.getD 0)).set (2 * t.toNat+1) (old[2 * t.toNat+1]?.getD 0)) (uZ (uZ h (ho _)) (ho _))
theorem BZ {d:Dev} {st:List Int} (h:ja d st=true):bL d=true:=by
 unfold ja at h
 rw [Bool.and_eq_true] at h
 exact h.1
theorem Ba {d:Dev} {old l:List Int} (ho:ja d old=true) (hl:ja d l=true) (ts:List Int):ja d (ovS old ts l)=true :=
 FQ (BZ ho) (by rw [lC];exact oL hl) (Hl (qd ho) ts (qd hl))
theorem zt {d:Dev} {sv:List (List Int)} (hs:ae d sv=true) (ts:List Int):∀{l:List (List Int)},ae d l=true→ae d (abF sv ts l)=true:=by
 induction ts with
 | nil=>intro l h;exact h
 | cons t ts ih =>
  intro l h
  refine ih (l:=l.set t.toNat (sv[t.toNat]?.getD [])) (pR h fun ht=>?_)
  obtain ⟨_,h2,h3⟩:=af hs
  exact h3 _ (by rw [h2,←(af h).2.1];exact ht)
theorem Jh {d:Dev} {fs:List (List Int)} (h:ae d fs=true):bkF (wH d fs)=true:=by
 rw [kz h]
 exact rf h (xX h) (.inl ⟨.inl rfl,rfl,rfl⟩)
theorem J8 {b:Bd} (h:bkF b=true) (t k i:Int):bkF (upB b t k i)=true:=by
 obtain ⟨h1,h2,_⟩:=bz h
 have ha:=zq h
 rw [upB,if_pos h]
 exact rf (yK h1 t k i) h2 ha
theorem J9 {b:Bd} (h:bkF b=true):bkF (scB b)=true:=by
 obtain ⟨h1,h2,_⟩:=bz h
 have ha:=zq h
 rw [scB,if_pos h]
 split
 ·exact rf (qU h1) h2 (.inl ⟨.inr rfl,rfl,rfl⟩)
 ·exact rf (qU h1) h2 ha
theorem JS {b:Bd} (h:bkF b=true) (r:Reg):bkF (beB b r)=true:=by
 obtain ⟨h1,h2,_⟩:=bz h
 unfold beB
 split
 ·rename_i ho
  unfold beO at ho
  rw [Bool.and_eq_true,Bool.and_eq_true] at ho
  exact rf h1 h2 (.inr ⟨rfl,ho.2.2⟩)
 ·exact h
theorem JU {b:Bd} (h:bkF b=true) (t:Int) (ws:List Int):bkF (wrB b t ws)=true:=by
 obtain ⟨h1,h2,_⟩:=bz h
 have ha:=zq h
 unfold wrB
 split
 ·rename_i ho
  unfold wrO at ho
  simp only [Bool.and_eq_true] at ho
  exact rf (pR h1 fun _=>BU ho.2.2.2.2) h2 ha
 ·exact h
theorem JV {b:Bd} (ho:abO b=true):bkF (rbB b)=true:=by
 obtain ⟨h,hp⟩:=lD ho
 obtain ⟨h1,h2,_,h4,_⟩:=bz h
 exact rf (zt (oO (h4 hp)).1 _ h1) h2 (.inl ⟨.inl rfl,rfl,rfl⟩)
theorem KD {b:Bd} (h:bkF b=true):bkF (abB b)=true:=by
 unfold abB
 split
 ·rename_i ho;exact JV ho
 ·exact h
theorem KE {b:Bd} (h:bkF b=true) (x:Int):bkF (coB b x)=true:=by
 obtain ⟨h1,h2,_⟩:=bz h
 unfold coB
 split
 ·rename_i ho
  split
  ·exact rf h1 (Ba (xX h1) h2 _) (.inl ⟨.inl rfl,rfl,rfl⟩)
  ·exact JV ho
 ·exact h
theorem JW {b:Bd} (h:bkF b=true) (ps:List Int):bkF (spB b ps)=true:=by
 obtain ⟨h1,h2,_⟩:=bz h
 have ha:=zq h
 unfold spB
 split
 ·rename_i ho
  unfold spO at ho
  rw [Bool.and_eq_true] at ho
  have hn:ja b.dev (nxB b ps)=true:=GU (BZ h2) h2 ho.2
  split
  ·exact h
  ·split
   ·exact rf h1 (Ba h2 hn _) ha
   ·exact rf h1 hn ha
 ·exact h
structure wB (b:Bd):Prop where
 bk:bkF b=true
 ph:b.phase=0∨b.phase=1
 code:∀j:Nat,pQ (b.frames[j]?.getD [])
 out:b.phase=1→∀j:Nat,fq b.dev b.reg (j:Int)=false→b.frames[j]?.getD []=b.saved[j]?.getD []
theorem Hm {d:Dev} {fs:List (List Int)} (h:ae d fs=true) (hc:∀j:Nat,pQ (fs[j]?.getD [])):wB (wH d fs):=by
 refine ⟨Jh h,?_,?_,?_⟩
 ·rw [kz h];exact .inl rfl
 ·rw [kz h];exact hc
 ·rw [kz h];intro hp;cases hp
theorem I1 {b:Bd} (h:wB b) (ps:List Int):wB (spB b ps):=by
 refine ⟨JW h.bk ps,?_,?_,?_⟩ <;> (unfold spB;split) <;> (try split) <;> (try split)
 all_goals first|exact h.ph|exact h.code|exact h.out
theorem I4 {b:Bd} (h:wB b) (r:Reg):wB (beB b r):=by
 refine ⟨JS h.bk r,?_,?_,?_⟩ <;> (unfold beB;split)
 ·exact .inr rfl
 ·exact h.ph
 ·exact h.code
 ·exact h.code
 ·exact fun _ _ _=>rfl
 ·exact h.out
theorem I5 {b:Bd} (h:wB b) (t:Int) (ws:List Int):wB (wrB b t ws):=by
 refine ⟨JU h.bk t ws,?_,?_,?_⟩ <;> (unfold wrB;split)
 ·exact h.ph
 ·exact h.ph
 ·rename_i ho
  unfold wrO at ho
  simp only [Bool.and_eq_true] at ho
  intro j
  show pQ ((b.frames.set t.toNat (kQ ws))[j]?.getD [])
  rw [uu]
  split
  ·exact BV ho.2.2.2.2
  ·exact h.code j
 ·exact h.code
 ·rename_i ho
  unfold wrO at ho
  simp only [Bool.and_eq_true] at ho
  intro hp j hj
  show (b.frames.set t.toNat (kQ ws))[j]?.getD []=_
  have h0:=aa.1 ho.2.2.1
  have h1:=ho.2.2.2.1
  rw [uu,if_neg]
  ·exact h.out hp j hj
  ·rintro ⟨e,_⟩
   have e2:t=(j:Int):=by omega
   rw [e2] at h1
   rw [show fq b.dev b.reg (j:Int)=false from hj] at h1
   cases h1
 ·exact h.out
theorem Ho (b:Bd) (ps:List Int):(spB b ps).dev=b.dev:=by unfold spB;split <;> (try split) <;> (try split) <;> rfl
theorem Hq (b:Bd) (r:Reg):(beB b r).dev=b.dev:=by unfold beB;split <;> rfl
theorem Hr (b:Bd) (t:Int) (ws:List Int):(wrB b t ws).dev=b.dev:=by unfold wrB;split <;> rfl
theorem mi {b:Bd} (h:bkF b=true):BdB 432 b:=by
 obtain ⟨hf,hs,-,h1,h2⟩:=bz h
 have hn:=dR hf
 refine ⟨pm (fun j _=>jD hf j) hn.2,?_,?_⟩
 ·have e1:=oL hs
  have e2:=hn.1
  have e3:=hn.2
  omega
 ·rcases Decidable.em (b.phase=1) with hp|hp
  ·have hs:=(oO (h1 hp)).1
   exact pm (fun j _=>jD hs j) (dR hs).2
  ·rw [(h2 hp).2]
   simp [bF,iO]
theorem aH.toO {g0 lo hi:Nat} {w:World} {b:Bd} {s:Sl3} (h:aH lo hi w b s) (hg:g0<lo∨hi<=g0):dG g0 lo hi w b s:=by
 obtain ⟨S1,S2,S3,q⟩:=h
 exact ⟨S1,S2,S3,q,fun x=>by have:=q.i1 _ x;omega,fun x=>by have:=q.i2 _ x;omega,fun x=>by have:=q.i3 _ x;omega⟩
theorem dG.keepO {g0 lo hi:Nat} {w w':World} {b:Bd} {s:Sl3} (h:dG g0 lo hi w b s) (hk:∀i,i<w.heap.size→i≠g0→lo<=i→w'.heap[i]?=w.heap[i]?):dG g0 lo hi w' b s:=by
 obtain ⟨S1,S2,S3,q,n1,n2,n3⟩:=h
 refine ⟨S1,S2,S3,q.keep fun i hi hS=>?_,n1,n2,n3⟩
 rcases hS with x|x|x
 ·exact hk i hi (by rintro rfl;exact n1 x) (q.i1 _ x).1
 ·exact hk i hi (by rintro rfl;exact n2 x) (q.i2 _ x).1
 ·exact hk i hi (by rintro rfl;exact n3 x) (q.i3 _ x).1
theorem dG.wide {g0 lo hi lo' hi':Nat} {w:World} {b:Bd} {s:Sl3} (h:dG g0 lo hi w b s) (e1:lo'<=lo) (e2:hi<=hi'):dG g0 lo' hi' w b s:=by
 obtain ⟨S1,S2,S3,k,n⟩:=h
 have j1:=k.i1
 have j2:=k.i2
 have j3:=k.i3
 exact ⟨S1,S2,S3,⟨k.frames.widen e1 e2,k.f1,k.state.more e1,k.f2,k.saved.widen e1 e2,k.f3,k.d12,k.d13,k.d23,fun i h=>by have:=j1 i h;omega,fun i h=>by have:=j2 i h;omega,fun i h=>by have:=j3 i h;omega⟩,n⟩
structure BSt (w wr:World) (g B:Nat) (A:Option Addr) (n c:Nat) (bs:List Int) (d:Dev) (r:Reg) (gd gr gb:Nat) (b:Bd) (s:Sl3):Prop where
 cur:Cur wr g B A n c bs
 grown:w.grownBy wr (some g)
 res:bD wr w.heap.size zBd zSl
 dev:wr.heap[gd]?=some (.cells #[.int .i64 d.W,.int .i64 d.H,.int .i64 d.T,.int .i64 d.R] 25 (0,0))
 reg:wr.heap[gr]?=some (.cells #[.int .i64 r.X0,.int .i64 r.Y0,.int .i64 r.X1,.int .i64 r.Y1] 29 (0,0))
 at_:bD wr gb b s
 fp:dG gb (w.heap.size+1) wr.heap.size wr b s
 good:wB b
 dv:b.dev=d
 o1:g<w.heap.size
 o2:w.heap.size<gd
 o3:gd<gr
 o4:gr<gb
section
variable {w wr w':World} {g B:Nat} {A:Option Addr} {n c:Nat} {bs:List Int} {d:Dev} {r:Reg} {gd gr gb:Nat} {b b':Bd} {s R:Sl3}
theorem BSt.below (h:BSt w wr g B A n c bs d r gd gr gb b s) (hb:Below wr.heap.size wr w'):BSt w w' g B A n c bs d r gd gr gb b s :=
 ⟨h.cur.below hb,bG h.grown hb h.grown.size,h.res.tr hb,aJ hb h.dev,aJ hb h.reg,h.at_.tr hb,(h.fp.below hb).wide (Nat.le_refl _) hb.size,h.good,h.dv,h.o1,h.o2,h.o3,h.o4⟩
theorem BSt.drewd (h:BSt w wr g B A n c bs d r gd gr gb b s):BSt w wr.drew g B A n c bs d r gd gr gb b s:=h.below (Below.refl _ _).drew
theorem BSt.go (h:BSt w wr g B A n c bs d r gd gr gb b s) (hg:wr.grownBy w' (some g)) (hc:Cur w' g B A n c bs):BSt w w' g B A n c bs d r gd gr gb b s:=by
 have o1:=h.o1
 have o2:=h.o2
 have o3:=h.o3
 have o4:=h.o4
 exact ⟨hc,aO h.grown hg,(aY hg (aG h.res) (by omega)).trans h.res,(aY hg (aG h.dev) (by omega)).trans h.dev,(aY hg (aG h.reg) (by omega)).trans h.reg,(aY hg (aG h.at_) (by omega)).trans h.at_,
  (h.fp.keepO fun k hk _ h1=>aY hg hk (by omega)).wide (Nat.le_refl _) hg.size,h.good,h.dv,o1,o2,o3,o4⟩
theorem BSt.put {lo hi:Nat} {WE:World} (h:BSt w wr g B A n c bs d r gd gr gb b s) (hf:aH lo hi wr b' R) (hlo:gb+1<=lo) (hhi:hi<=wr.heap.size) (hg:wB b') (hd:b'.dev=d) (hs:iP (put12 wr gb b' R) WE):BSt w WE g B A n c bs d r gd gr gb b' R:=by
 have o1:=h.o1
 have o2:=h.o2
 have o3:=h.o3
 have o4:=h.o4
 generalize hWF:put12 wr gb b' R=WF at hs
 obtain ⟨e1,e2,e3,e4⟩:=bS hWF h.at_ (Below.refl gb wr) (Nat.le_refl _)
 have e5:=hs.below e3
 have hk:∀k,k<gb→WE.heap[k]?=wr.heap[k]?:=fun k hk=>e5.block k hk
 have hsz:WF.heap.size<=WE.heap.size:=by rw [hs.heap];exact Nat.le_refl _
 refine ⟨h.cur.keepB e5 (by omega),bG h.grown e5 (by omega),(hk _ (by omega)).trans h.res,(hk _ (by omega)).trans h.dev,(hk _ (by omega)).trans h.reg,by show WE.heap[gb]?=_;rw [hs.heap];exact e1,?_,hg,hd,o1,o2,o3,o4⟩
 exact ((hs.fp (hf.chg e4 (.inr hlo))).toO (.inl hlo)).wide (by omega) (by omega)
theorem BSt.putE {lo hi:Nat} {WE:World} (h:BSt w wr g B A n c bs d r gd gr gb b s) (hf:aH lo hi wr b' R) (hlo:gb+1<=lo) (hhi:hi<=wr.heap.size) (hg:wB b') (hd:b'.dev=d) (e:put12 wr gb b' R=WE):BSt w WE g B A n c bs d r gd gr gb b' R :=
 h.put hf hlo hhi hg hd (by rw [e];exact ⟨rfl,rfl,rfl,rfl⟩)
theorem BSt.small (h:BSt w wr g B A n c bs d r gd gr gb b s):bF b.frames<=1099511627776/\s.n2<=16777216/\bF b.saved<=1099511627776:=by
 obtain ⟨h1,h2,h3⟩:=mi h.good.bk
 have h4:=h.fp.fp.rd.state.1
 omega
end
def KF (w w5:World) (d:Dev) (v:Value) (w':World):Prop:=∃(ts:List aZ) (A:Option Addr) (c:Nat) (wx:World),v = .slice A (tiles d) c/\ts.length=tiles d/\dA (w.heap.size+1) wx.heap.size wx A (tiles d) c (jl d ts)/\Below w5.heap.size w5 wx/\wx=w'
theorem tu {d:Dev} {fs:List (List Int)} (h:ae d fs=true):bF fs<=1099511627776:=Nat.le_trans (pm (fun j _=>jD h j) (dR h).2) (by omega)
theorem zw (g B:Nat) (A:Option Addr) (n c:Nat) (bs:List Int) (w:World) (h:Cur w g B A n c bs) (hn:n<=1099511627776) :
  Calls Tryz.prog 35 #[.pointer (some ⟨g,0,none⟩)] w fun e w'=>∃(b:Bd) (s:Sl3),e = .returned (.agg (aD b s))/\wB b/\aH w.heap.size w'.heap.size w' b s/\Cur w' g B A n c bs/\w.grownBy w' (some g):=by
 have hgw:g<w.heap.size:=h.lt
 have HC:=Hd h
 have B0:=Hd (aB (Below.refl w.heap.size w) (.cells z12 31))
 have HZ:Hid (bD (w.alloc (.cells z12 31)) w.heap.size zBd zSl):=aK _ _
 clear h
 go_enter Tryz.func35,Tryz.ntmps35
 go_wp2_with fail
 refine (yG g B A n c bs _ (HC.out.below B0.out) hn).mono ?_
 rintro e w1 ⟨d,ts,A1,c1,rfl,hd,htl,hto,o1,k1,g1⟩
 have hs1:=g1.size
 simp only [World.size_alloc] at hs1
 have HD:=Hd hd
 have hb1:Below w1.heap.size w1 (w1.alloc (.cells #[.int .i64 d.W,.int .i64 d.H,.int .i64 d.T,.int .i64 d.R] 25)):=aB (Below.refl _ _) _
 have HF1:=Hd ((o1.below hb1).widen (show w.heap.size+1<=_ by simp) (Nat.le_refl _))
 have HTL:=Hd htl
 have KC:=Hd (k1.below hb1)
 have HG:=Hd (bG (aO (bX B0.out _) g1) hb1 (by omega))
 replace HZ:=Hd (aJ hb1 ((aY g1 (aG HZ.out) (by omega)).trans HZ.out))
 have HX:=Hd (aK w1 (.cells #[.int .i64 d.W,.int .i64 d.H,.int .i64 d.T,.int .i64 d.R] 25))
 have hs2:(w1.alloc (.cells #[.int .i64 d.W,.int .i64 d.H,.int .i64 d.T,.int .i64 d.R] 25)).heap.size=w1.heap.size+1:=by simp
 clear hb1 g1 k1 o1 hd htl hto
 obtain ⟨d0,d1,d2,d3⟩:=dK HX.out
 go_wp2_with fail
 generalize hW2:(w1.alloc (.cells #[.int .i64 d.W,.int .i64 d.H,.int .i64 d.T,.int .i64 d.R] 25))=w2 at *
 generalize hgd:w1.heap.size=gd at *
 clear hW2 hgd d0 d1 d2 d3
 refine (rY g B A n c bs d _ KC.out hn HD.out).mono ?_
 rintro e w3 ⟨r,rfl,k3,g3⟩
 have hs3:=g3.size
 have hb3:Below w3.heap.size w3 (w3.alloc (.cells #[.int .i64 r.X0,.int .i64 r.Y0,.int .i64 r.X1,.int .i64 r.Y1] 29)):=aB (Below.refl _ _) _
 replace KC:=Hd (k3.below hb3)
 replace HG:=Hd (bG (aO HG.out g3) hb3 (by omega))
 replace HZ:=Hd (aJ hb3 ((aY g3 (aG HZ.out) (by omega)).trans HZ.out))
 replace HX:=Hd (aJ hb3 ((aY g3 (aG HX.out) (by omega)).trans HX.out))
 replace HF1:=Hd ((HF1.out.grownC g3 (by omega)).below hb3)
 have HY:=Hd (aK w3 (.cells #[.int .i64 r.X0,.int .i64 r.Y0,.int .i64 r.X1,.int .i64 r.Y1] 29))
 have hs4:(w3.alloc (.cells #[.int .i64 r.X0,.int .i64 r.Y0,.int .i64 r.X1,.int .i64 r.Y1] 29)).heap.size=w3.heap.size+1:=by simp
 clear hb3 g3 k3
 obtain ⟨d0,d1,d2,d3⟩:=dK HX.out
 obtain ⟨r0,r1,r2,r3⟩:=dK HY.out
 go_wp2_with fail
 generalize hW4:(w3.alloc (.cells #[.int .i64 r.X0,.int .i64 r.Y0,.int .i64 r.X1,.int .i64 r.Y1] 29))=w4 at *
 generalize hgr:w3.heap.size=gr at *
 clear hW4 hgr d0 d1 d2 d3 r0 r1 r2 r3
 refine (oI d r _).mono ?_
 rintro e w5 ⟨rfl,b5⟩
 have hs5:=b5.size
 replace KC:=Hd (KC.out.below b5)
 replace HG:=Hd (bG HG.out b5 (by omega))
 replace HZ:=Hd (aJ b5 HZ.out)
 replace HX:=Hd (aJ b5 HX.out)
 replace HY:=Hd (aJ b5 HY.out)
 replace HF1:=Hd (HF1.out.below b5)
 clear b5
 have HOK1:Hid (ae d (jl d ts)=true):=yc HD.out HTL.out
 have hgg:g<gd:=by omega
 have hdr:gd<gr:=by omega
 have hs6:gr<w5.heap.size:=by omega
 have hwgd:w.heap.size<gd:=by omega
 obtain ⟨d0,d1,d2,d3⟩:=dK HX.out
 obtain ⟨r0,r1,r2,r3⟩:=dK HY.out
 go_upto_if 20 with fail
 go_cut [4] (fun v w'=>KF w w5 d v w')
 case first =>
  cases hr:mR d r with
  | false =>
   go_wp2_with fail
   go_meet
   exact ⟨ts,A1,c1,_,rfl,HTL.out,HF1.out.widen (Nat.le_refl _) (by omega),Below.refl _ _,rfl⟩
  | true =>
   go_wp2_with fail
   refine (zm d A1 (tiles d) c1 (jl d ts) r _ HF1.out.rd (tu HOK1.out) HOK1.out).mono ?_
   rintro e w6 ⟨ts',A',c',rfl,htl',o',b6⟩
   have HQ:Hid (KF w w5 d (.slice A' (tiles d) c') w6):=⟨ts',A',c',w6,rfl,htl',o'.widen (by omega) (Nat.le_refl _),b6,rfl⟩
   clear o' b6
   go_wp2_with fail
   go_meet
   exact HQ.out
 obtain ⟨ts2,A2,c2,w6,rfl,htl2,o2,b6,rfl⟩:=hcut
 have hs7:=b6.size
 have HOK2:Hid (ae d (jl d ts2)=true):=yc HD.out htl2
 have HCR:=Hd (fun j=>yJ (d:=d) (ts:=ts2) j)
 generalize jl d ts2=fs at *
 replace KC:=Hd (KC.out.below b6)
 replace HG:=Hd (bG HG.out b6 (by omega))
 replace HZ:=Hd (aJ b6 HZ.out)
 replace HX:=Hd (aJ b6 HX.out)
 replace HY:=Hd (aJ b6 HY.out)
 have HF:=Hd o2
 clear b6 o2 htl2 HF1 HOK1 HTL d0 d1 d2 d3 r0 r1 r2 r3
 obtain ⟨d0,d1,d2,d3⟩:=dK HX.out
 go_wp2_with fail
 refine (yP d A2 (tiles d) c2 fs _ HF.out.rd (tu HOK2.out)).mono ?_
 rintro e w8 ⟨s,rfl,a8,b8⟩
 have HGD:=Hd (Hm HOK2.out HCR.out)
 have HDV:Hid ((wH d fs).dev=d):=by show _=_;rw [kz HOK2.out]
 have HF8:=Hd a8.fp
 generalize wH d fs=b at *
 have hs8:=b8.size
 have hb9:Below w8.heap.size w8 (w8.alloc (.cells (aD b s) 31)):=aB (Below.refl _ _) _
 have b9:=aA b8 hb9
 have HS:Hid (BSt w (w8.alloc (.cells (aD b s) 31)) g B A n c bs d r gd gr w8.heap.size b s):=⟨KC.out.below b9,bG HG.out b9 (by omega),aJ b9 HZ.out,aJ b9 HX.out,aJ b9 HY.out,aK w8 _,((HF8.out.below hb9).toO (.inr (Nat.le_refl _))).wide (by omega) (by have:=hb9.size;omega),HGD.out,HDV.out,hgw,hwgd,hdr,by omega⟩
 clear KC HG HZ HX HY HF HF8 HGD HDV hb9 b8 b9 a8 HOK2 HCR d0 d1 d2 d3 HC B0
 go_wp2_with fail
 generalize hW9:(w8.alloc (.cells (aD b s) 31))=w9 at *
 generalize hgb:w8.heap.size=gb at *
 clear hW9 hgb hs1 hs2 hs3 hs4 hs5 hs6 hs7 hs8
 refine (aj g B A n c bs 3 _ HS.out.cur hn (by omega) (by omega)).mono ?_
 rintro e w10 ⟨x,rfl,hx0,hx1,k10,g10⟩
 replace HS:=Hd (HS.out.go g10 k10)
 clear k10 g10
 obtain ⟨k,rfl⟩:∃k:Nat,x=k:=⟨x.toNat,by omega⟩
 go_wp2_with fail
 go_loopw [8] (fun i wr=>∃(k:Nat) (b:Bd) (s:Sl3),k<=3/\i = .int .i64 k/\BSt w wr g B A n c bs d r gd gr gb b s) (fun i _=>(intOf i).toNat)
 case atStart=>exact ⟨k,b,s,by omega,rfl,HS.out⟩
 case round =>
  obtain ⟨k,b,s,hk,rfl,hs⟩:=hrel
  have HS:=Hd hs
  clear hs
  by_cases hk0:k=0
  ·have hdk:decide ((k:Int)>0)=false:=by simp;omega
   have hdn:decide (0<k)=false:=by simp;omega
   clear hk0
   go_wp2_with fail
   refine (fB g B A n c bs 2 _ HS.out.cur hn (by omega) (by omega)).mono ?_
   rintro e w11 ⟨q,rfl,k11,g11⟩
   replace HS:=Hd (HS.out.go g11 k11)
   clear k11 g11
   cases q with
   | false =>
    obtain ⟨o0,o1,o2,o3,o4,o5,o6,o7,o8,o9,o10,o11⟩:=HS.out.at_.cells
    obtain ⟨p0,p1,p2,p3,p4,p5,p6,p7,p8,p9,p10,p11⟩:=HS.out.res.cells
    have yp:=HS.out.res.soft
    have lp:=aG HS.out.res
    go_wp2_with fail
    clear o0 o1 o2 o3 o4 o5 o6 o7 o8 o9 o10 o11 p0 p1 p2 p3 p4 p5 p6 p7 p8 p9 p10 p11 yp lp
    generalize hWE:World.setCell _ _ _=WE
    obtain ⟨e1,e2,e3,e4⟩:=bS hWE HS.out.res (Below.refl w.heap.size _) (Nat.le_refl _)
    refine bodyPost_ret (v := .agg (aD b s)) (bZ Tryz.results35 rfl e1 Tryz.underlying31 (by kernel_rfl)) rfl ⟨b,s,rfl,HS.out.good,?_,HS.out.cur.keepB e3 hgw,bG HS.out.grown e3 (Nat.le_refl _)⟩
    exact (HS.out.fp.fp.chg e4 (.inr (Nat.le_refl _))).widen (Nat.le_succ _) e2
   | true =>
    obtain ⟨z1,z2,z3⟩:=HS.out.small
    obtain ⟨o0,o1,o2,o3,o4,o5,o6,o7,o8,o9,o10,o11⟩:=HS.out.at_.cells
    obtain ⟨d0,d1,d2,d3⟩:=dK HS.out.reg
    have yo:=HS.out.at_.soft
    have lb:=aG HS.out.at_
    go_wp2_with fail
    refine (oo b s r _ HS.out.fp.fp.rd z1 z2 z3).mono ?_
    rintro e w12 ⟨R,rfl,f12,b12⟩
    have lb4:=lb
    have HFp:=Hd f12
    replace HS:=Hd (HS.out.below b12)
    clear f12 b12
    clear o0 o1 o2 o3 o4 o5 o6 o7 o8 o9 o10 o11 d0 d1 d2 d3 yo lb;obtain ⟨o0,o1,o2,o3,o4,o5,o6,o7,o8,o9,o10,o11⟩:=HS.out.at_.cells;obtain ⟨d0,d1,d2,d3⟩:=dK HS.out.dev;have yo:=HS.out.at_.soft;have lb:=aG HS.out.at_
    go_wp2_with fail
    generalize hWE:World.setCell _ _ _=WE
    replace HS:=Hd (HS.out.putE HFp.out lb4 (Nat.le_refl _) (I4 HS.out.good r) ((Hq b r).trans HS.out.dv) hWE)
    clear hWE HFp
    generalize beB b r=b at *
    clear o0 o1 o2 o3 o4 o5 o6 o7 o8 o9 o10 o11 d0 d1 d2 d3 yo lb lb4 z1 z2 z3
    refine (aj g B A n c bs 3 _ HS.out.cur hn (by omega) (by omega)).mono ?_
    rintro e w13 ⟨x,rfl,hx0,hx1,k13,g13⟩
    replace HS:=Hd (HS.out.go g13 k13)
    clear k13 g13
    obtain ⟨k,rfl⟩:∃k:Nat,x=k:=⟨x.toNat,by omega⟩
    go_wp2_with fail
    go_loopw [9] (fun i wr=>∃(k:Nat) (b:Bd) (s:Sl3),k<=3/\i = .int .i64 k/\BSt w wr g B A n c bs d r gd gr gb b s) (fun i _=>(intOf i).toNat)
    case atStart=>exact ⟨k,b,R,by omega,rfl,HS.out⟩
    case round =>
     obtain ⟨k,b,s,hk,rfl,hs⟩:=hrel
     have HS:=Hd hs
     clear hs
     by_cases hk0:k=0
     ·have hdk:decide ((k:Int)>0)=false:=by simp;omega
      have hdn:decide (0<k)=false:=by simp;omega
      clear hk0
      obtain ⟨o0,o1,o2,o3,o4,o5,o6,o7,o8,o9,o10,o11⟩:=HS.out.at_.cells
      obtain ⟨p0,p1,p2,p3,p4,p5,p6,p7,p8,p9,p10,p11⟩:=HS.out.res.cells
      have yp:=HS.out.res.soft
      have lp:=aG HS.out.res
      go_wp2_with fail
      clear o0 o1 o2 o3 o4 o5 o6 o7 o8 o9 o10 o11 p0 p1 p2 p3 p4 p5 p6 p7 p8 p9 p10 p11 yp lp
      generalize hWE:World.setCell _ _ _=WE
      obtain ⟨e1,e2,e3,e4⟩:=bS hWE HS.out.res (Below.refl w.heap.size _) (Nat.le_refl _)
      refine bodyPost_ret (v := .agg (aD b s)) (bZ Tryz.results35 rfl e1 Tryz.underlying31 (by kernel_rfl)) rfl ⟨b,s,rfl,HS.out.good,?_,HS.out.cur.keepB e3 hgw,bG HS.out.grown e3 (Nat.le_refl _)⟩
      exact (HS.out.fp.fp.chg e4 (.inr (Nat.le_refl _))).widen (Nat.le_succ _) e2
     ·have hdk:decide ((k:Int)>0)=true:=by simp;omega
      obtain ⟨k',hk'⟩:∃j:Nat,k=j+1:=⟨k - 1,by omega⟩
      subst hk'
      have a8:IntKind.i64.wrap (((k'+1:Nat):Int) - 1)=(k':Int):=(IntWalk.i64_in _ (by omega)).trans (by omega)
      clear hk0
      obtain ⟨z1,z2,z3⟩:=HS.out.small
      obtain ⟨o0,o1,o2,o3,o4,o5,o6,o7,o8,o9,o10,o11⟩:=HS.out.at_.cells
      obtain ⟨d0,d1,d2,d3⟩:=dK HS.out.dev
      have yo:=HS.out.at_.soft
      have lb:=aG HS.out.at_
      have HWD:Hid True:=Hd trivial
      go_wp2_with fail
      go_region_with ((first
       | (go_at_call 97;(first|(with_reducible refine (qV g B A n c bs b s _ HS.out.cur hn).mono ?_)|(with_reducible refine (qV g B A n c bs b s _ HS.out.drewd.cur hn).mono ?_));rintro e w4 ⟨t,rfl,k4,g4⟩;(first|replace HWD:=Hd (HWD.out.grownC g4 hgw)|skip);(first|replace HS:=Hd (HS.out.go g4 k4)|replace HS:=Hd (HS.out.drewd.go g4 k4));clear k4 g4;clear o0 o1 o2 o3 o4 o5 o6 o7 o8 o9 o10 o11 d0 d1 d2 d3 yo lb;obtain ⟨o0,o1,o2,o3,o4,o5,o6,o7,o8,o9,o10,o11⟩:=HS.out.at_.cells;obtain ⟨d0,d1,d2,d3⟩:=dK HS.out.dev;have yo:=HS.out.at_.soft;have lb:=aG HS.out.at_)
       | (go_at_call 98;(first|(with_reducible refine (pW g B A n c bs d _ HS.out.cur hn HD.out).mono ?_)|(with_reducible refine (pW g B A n c bs d _ HS.out.drewd.cur hn HD.out).mono ?_));rintro e w4 ⟨ws,WA,wn,wc,rfl,hwn,oW,k4,g4⟩;have HWN:=Hd hwn;replace HWD:=Hd (oW.more (show w.heap.size<=_ from HS.out.grown.size));(first|replace HS:=Hd (HS.out.go g4 k4)|replace HS:=Hd (HS.out.drewd.go g4 k4));clear hwn oW k4 g4;clear o0 o1 o2 o3 o4 o5 o6 o7 o8 o9 o10 o11 d0 d1 d2 d3 yo lb;obtain ⟨o0,o1,o2,o3,o4,o5,o6,o7,o8,o9,o10,o11⟩:=HS.out.at_.cells;obtain ⟨d0,d1,d2,d3⟩:=dK HS.out.dev;have yo:=HS.out.at_.soft;have lb:=aG HS.out.at_)
       | (go_at_call 96;(first|(with_reducible refine (lI b s t WA wn wc ws _ HS.out.fp.fp.rd HWD.out.ints z1 z2 z3 (by have:=HWN.out;omega)).mono ?_)|(with_reducible refine (lI b s t WA wn wc ws _ HS.out.drewd.fp.fp.rd (HWD.out.ints.below (Below.refl _ _).drew) z1 z2 z3 (by have:=HWN.out;omega)).mono ?_));rintro e w5 ⟨R,rfl,f5,b5⟩;have lb4:=lb;have HFp:=Hd f5;(first|replace HS:=Hd (HS.out.below b5)|replace HS:=Hd (HS.out.drewd.below b5));clear f5 b5;clear o0 o1 o2 o3 o4 o5 o6 o7 o8 o9 o10 o11 d0 d1 d2 d3 yo lb;obtain ⟨o0,o1,o2,o3,o4,o5,o6,o7,o8,o9,o10,o11⟩:=HS.out.at_.cells;obtain ⟨d0,d1,d2,d3⟩:=dK HS.out.dev;have yo:=HS.out.at_.soft;have lb:=aG HS.out.at_)))
      all_goals
       go_wp2_with fail
       try simp only [eF,dE]
       generalize hWE:World.setCell _ _ _=WE
       replace HS:=Hd (HS.out.putE HFp.out lb4 (Nat.le_refl _) (I5 HS.out.good t ws) ((Hr b t ws).trans HS.out.dv) hWE)
       clear hWE HFp
       go_roundw
       case rel=>exact ⟨k',_,R,by omega,rfl,HS.out⟩
       case measure=>simp [intOf]
  ·have hdk:decide ((k:Int)>0)=true:=by simp;omega
   obtain ⟨k',hk'⟩:∃j:Nat,k=j+1:=⟨k - 1,by omega⟩
   subst hk'
   have a8:IntKind.i64.wrap (((k'+1:Nat):Int) - 1)=(k':Int):=(IntWalk.i64_in _ (by omega)).trans (by omega)
   clear hk0
   obtain ⟨z1,z2,z3⟩:=HS.out.small
   obtain ⟨o0,o1,o2,o3,o4,o5,o6,o7,o8,o9,o10,o11⟩:=HS.out.at_.cells
   obtain ⟨d0,d1,d2,d3⟩:=dK HS.out.dev
   have yo:=HS.out.at_.soft
   have lb:=aG HS.out.at_
   have HTH:=Hd (bO HD.out).2.2
   go_wp2_with fail
   go_region_with ((first
    | (go_at_call 93;(first|(with_reducible refine (sI g B A n c bs d _ HS.out.cur hn HD.out).mono ?_)|(with_reducible refine (sI g B A n c bs d _ HS.out.drewd.cur hn HD.out).mono ?_));rintro e w4 ⟨ps,PA,pc,rfl,hpl,hpu,oP,k4,g4⟩;replace HS:=Hd (HS.out.go (show wr.grownBy w4 (some g) from ⟨g4.os,g4.tape,g4.output,g4.size,g4.block⟩) k4);have HP:=Hd oP.ints;clear hpl hpu oP k4 g4;clear o0 o1 o2 o3 o4 o5 o6 o7 o8 o9 o10 o11 d0 d1 d2 d3 yo lb;obtain ⟨o0,o1,o2,o3,o4,o5,o6,o7,o8,o9,o10,o11⟩:=HS.out.at_.cells;obtain ⟨d0,d1,d2,d3⟩:=dK HS.out.dev;have yo:=HS.out.at_.soft;have lb:=aG HS.out.at_)
    | (go_at_call 92;(first|(with_reducible refine (nL b s PA _ pc ps _ HS.out.fp.fp.rd HP.out z1 z2 z3 (by have:=HTH.out;omega)).mono ?_)|(with_reducible refine (nL b s PA _ pc ps _ HS.out.drewd.fp.fp.rd (HP.out.below (Below.refl _ _).drew) z1 z2 z3 (by have:=HTH.out;omega)).mono ?_));rintro e w5 ⟨R,NA,nn,nc,rfl,md,f5,_,⟨u1,u2,_⟩,b5⟩;have lb4:=lb;have HFp:=Hd f5;(first|replace HS:=Hd (HS.out.below b5)|replace HS:=Hd (HS.out.drewd.below b5));clear f5 b5;clear o0 o1 o2 o3 o4 o5 o6 o7 o8 o9 o10 o11 d0 d1 d2 d3 yo lb;obtain ⟨o0,o1,o2,o3,o4,o5,o6,o7,o8,o9,o10,o11⟩:=HS.out.at_.cells;obtain ⟨d0,d1,d2,d3⟩:=dK HS.out.dev;have yo:=HS.out.at_.soft;have lb:=aG HS.out.at_)))
   all_goals
    go_wp2_with fail
    try simp only [eF,dE]
    generalize hWE:World.setCell _ _ _=WE
    replace HS:=Hd (HS.out.putE HFp.out lb4 u2 (I1 HS.out.good ps) ((Ho b ps).trans HS.out.dv) hWE)
    clear hWE HFp
    go_roundw
    case rel=>exact ⟨k',_,R,by omega,rfl,HS.out⟩
    case measure=>simp [intOf]
end Go.Proofs.YtignkfhdkcgkgaaGreat
