/- decodeTile of the program makes the configuration that the words encode. -/
import Derived.Test.YtignkfhdkcgkgaaGreatBx
namespace Go.Proofs.YtignkfhdkcgkgaaGreat
set_option maxHeartbeats 4000000
set_option maxRecDepth 100000
open Go.RowKit
def uN (lo hi:Nat) (w:World) (t:au) (v:Value):Prop:=∃v0 v1:Value,v = .agg #[v0,v1,.int .i64 t.pad,.int .i64 t.ram]/\dP lo hi w t.cells [v0,v1,.int .i64 t.pad,.int .i64 t.ram]
def Bc (w:World) (t:au) (e:Ending) (w':World):Prop:=∃v,e = .returned v/\uN w.heap.size w'.heap.size w' t v/\Below w.heap.size w w'
def Z4:List Int:=List.replicate 4 0
def tl2 (ws:List Int) (M:Nat):Nat→Tl
 | 0=>⟨dQ ws 0 5 M M,Z4,Z4,0,0,0,0,0,0,0,0⟩
 | 1=>⟨dQ ws 0 5 M M,dQ ws (5 * M) 3 4 4,Z4,ag ws (5 * M+12) 16,ag ws (5 * M+28) 1,ag ws (5 * M+29) 1,0,0,0,0,0⟩
 | _=>⟨dQ ws 0 5 M M,dQ ws (5 * M) 3 4 4,dQ ws (5 * M+30) 3 4 4,ag ws (5 * M+12) 16,ag ws (5 * M+28) 1,ag ws (5 * M+29) 1,ag ws (5 * M+42) 16,ag ws (5 * M+58) 1,ag ws (5 * M+59) 1,0,0⟩
theorem eO {W w w':World} {B g:Nat} (h:Below B W w) (hg:w.grownBy w' (some g)) (hB:B<=w.heap.size) (hl:B<=g):Below B W w':=h.grown hg hB (by rintro k ⟨⟩;exact hl)
theorem DY (ws:List Int) (p:Nat):dQ ws p 3 4 4=[ag ws p 3,ag ws (p+3) 3,ag ws (p+6) 3,ag ws (p+9) 3]:=by rw [rV];rfl
theorem Ew (ws:List Int) (M:Nat):dQ ws 0 5 M M=oU ws M:=by rw [rV];simp [oU]
theorem EK {T:au} {ws:List Int} {M:Nat} (h:T=⟨oU ws M,[qx ws (5 * M),qx ws (5 * M+30)],ag ws (5 * M+60) 2,ag ws (5 * M+62) 5⟩) :
  T=⟨(tl2 ws M 2).mux,[⟨(tl2 ws M 2).s0,(tl2 ws M 2).a0,(tl2 ws M 2).b0,(tl2 ws M 2).c0⟩,⟨(tl2 ws M 2).s1,(tl2 ws M 2).a1,(tl2 ws M 2).b1,(tl2 ws M 2).c1⟩],ag ws (5 * M+60) 2,ag ws (5 * M+62) 5⟩:=by
 rw [h]
 simp only [tl2,Ew,DY]
 rfl
theorem jr (g:Nat) (A:Option Addr) (n c:Nat) (ws:List Int) (p b:Nat) (bi:Int) (w:World) (hbi:bi=(b:Int)) (h:Rdr w g A n c p) (hA:bH w A n ws) (hne:∀a,A=some a→a.block≠g) (hin:DI ws) (hp:p+b<=16 * n) (hb:b<=16) (hn:n<=1000) :
  Calls Tryz.prog 225 #[.pointer (some ⟨g,0,none⟩),.int .i64 bi] w fun e w'=>e = .returned (.int .i64 (ag ws p b))/\Rdr w' g A n c (p+b)/\w.grownBy w' (some g):=by
 rw [hbi]
 exact Gm g A n c ws p b w h hA hne hin hp hb hn
theorem dC {w:World} {p q:Addr} {u v:Value} (h:w.cell? p=some u) (hne:q.block≠p.block):(w.setCell q v).cell? p=some u:=(World.cell?_of_block (Below.heap_setCell w q v p.block hne.symm)).trans h
theorem wN (d:Dev) (A:Option Addr) (n c:Nat) (ws:List Int) (w:World) (hd:bO d=true) (hA:bH w A n ws) (hn:(n:Int)=fwI d) (hin:DI ws) :
  Calls Tryz.prog 192 #[.agg #[.int .i64 d.W,.int .i64 d.H,.int .i64 d.T,.int .i64 d.R],.slice A n c] w (Bc w (oV d ws)):=by
 obtain ⟨hm,hm1,hm2,hm3,hm4,hm5⟩:=mi hd
 have hn1:n<=11:=by omega
 have hn2:5 * iO d+67<=16 * n:=by omega
 have HD:=Hd hd
 have HI:=Hd hA
 have HIN:=Hd hin
 have HDT:Hid (oV d ws=⟨oU ws (iO d),[qx ws (5 * iO d),qx ws (5 * iO d+30)],ag ws (5 * iO d+60) 2,ag ws (5 * iO d+62) 5⟩):=rfl
 have HP:Hid (∀(t:au) (v:Value) (w':World),oV d ws=t→uN w.heap.size w'.heap.size w' t v→Below w.heap.size w w'→Bc w (oV d ws) (.returned v) w'):=fun t v w' e h hb=>by rw [e];exact ⟨v,rfl,h,hb⟩
 have hAb:=fun a (h:A=some a)=>(show a.block<w.heap.size by
  rcases Nat.eq_zero_or_pos n with h0|h0
  ·omega
  ·obtain ⟨b,o,e,hb,_⟩:=hA.2 h0
   rw [h] at e
   injection e with e
   subst e
   exact hb)
 have HAB:=Hd hAb
 clear hd hA hn hin hm hm3 hm4 hm5 hAb
 generalize oV d ws=T at *
 generalize hM:iO d=M at *
 have HM:=Hd hM
 clear hM
 go_enter Tryz.func192,Tryz.ntmps192
 go_wp2_with fail
 refine (xE d _ HD.out).mono ?_
 rintro e w1 ⟨v,rfl,he,b1⟩
 rw [HM.out] at he
 obtain ⟨gm,gl,g0,g1,rfl,l1,l2,l3,l4,n1,n2,n3,n4,n5,n6,k1,k2,k3,k4⟩:=he
 have hs1:=b1.size
 simp only [World.size_alloc] at hs1 l1 l2 l3 l4
 have hr:=aF b1 (g:=w.heap.size+1+1) (o := .cells #[.slice A n c,.int .i64 0] 215) (ae (by simp only [World.size_alloc]))
 have hres:=aF b1 (g:=w.heap.size+1) (o := .cells #[.slice none 0 0,.slice none 0 0,.int .i64 0,.int .i64 0] 103) (aR _ (ae (by simp only [World.size_alloc])))
 have HE:=Hd (aA (aB (aB (aB (Below.refl w.heap.size w) _) _) _) b1)
 go_wp2_with fail
 have HS:Sep ⟨w.heap.size+1+1,w.heap.size+1,w1.heap.size,gm,gl,g0,g1⟩ w.heap.size:=by
  have q1:=aX k1
  have q2:=aX k2
  have q3:=aX k3
  have q4:=aX k4
  constructor <;> simp only <;> omega
 have hDW:DW (w1.alloc (.cells #[.slice (some ⟨gm,0,none⟩) M M,.slice (some ⟨gl,0,none⟩) 2 2,.int .i64 0,.int .i64 0] 103)) ⟨w.heap.size+1+1,w.heap.size+1,w1.heap.size,gm,gl,g0,g1⟩ A n c 0 M ⟨dQ ws 0 5 M 0,Z4,Z4,0,0,0,0,0,0,0,0⟩ :=
  ⟨aR _ hr,aR _ hres,aL _ _,by rw [wI];exact aR _ k1,aR _ k2,aR _ k3,aR _ k4⟩
 have hB0:=aB HE.out (.cells #[.slice (some ⟨gm,0,none⟩) M M,.slice (some ⟨gl,0,none⟩) 2 2,.int .i64 0,.int .i64 0] 103)
 have HDW:=Hd hDW
 have HB0:=Hd hB0
 have hgc:w.heap.size+1+1+1<=w1.heap.size:=hs1
 clear b1 k1 k2 k3 k4 hr hres hDW hB0 HE hs1 n1 n2 n3 n4 n5 n6
 generalize hgr:w.heap.size+1=gr at *
 generalize hgg:gr+1=g at *
 generalize hgcc:w1.heap.size=gc at *
 have HSEP:=Hd HS
 have HNE:Hid (∀a,A=some a→a.block≠g):=fun a ha=>by have:=HAB.out a ha;omega
 have HGR:=Hd hgr
 have HGG:=Hd hgg
 clear hgr hgg hgcc HS
 have hlo:w.heap.size<=g:=by have:=HGR.out;have:=HGG.out;omega
 have hlor:w.heap.size<=gr:=by have:=HGR.out;omega
 have hlog:w.heap.size<=gc:=by have:=HGR.out;have:=HGG.out;omega
 have hlol:w.heap.size<=gl:=by have:=HGR.out;have:=HGG.out;omega
 have hlo0:w.heap.size<=g0:=by have:=HGR.out;have:=HGG.out;omega
 have hlo1:w.heap.size<=g1:=by have:=HGR.out;have:=HGG.out;omega
 have hlom:w.heap.size<=gm:=by have:=HGR.out;have:=HGG.out;omega
 go_loopw [18] (fun i wr=>∃j:Nat,j<=M/\i = .int .i64 j/\DW wr ⟨g,gr,gc,gm,gl,g0,g1⟩ A n c (5 * j) M ⟨dQ ws 0 5 M j,Z4,Z4,0,0,0,0,0,0,0,0⟩/\Below w.heap.size w wr) (fun i _=>M - (intOf i).toNat)
 case atStart=>exact ⟨0,Nat.zero_le _,rfl,HDW.out,HB0.out⟩
 case round =>
  obtain ⟨j,hj,rfl,hdw,hbe⟩:=hrel
  have HW:=Hd hdw
  have HB:=Hd hbe
  clear hdw hbe
  by_cases hlt:j<M
  ·have hc0:wr.cell? ⟨gc,0,none⟩=some (.slice (some ⟨gm,0,none⟩) M M):=aC HW.out.tile rfl
   have hnl:=fu (ws:=ws) (p:=0) (b:=5) (N:=M) (k:=j) (by omega)
   have hcm:wr.cell? ⟨gm,j,none⟩=some (.int .i64 ((dQ ws 0 5 M j)[j]?.getD 0)):=aC HW.out.mux (fC (by rw [hnl];exact hlt))
   have HNL:=Hd hnl
   have i0:(0:Int)<=(j:Int):=by omega
   have i1:(j:Int)<(M:Int):=by omega
   clear hnl hcm
   go_wp2_with fail
   go_region_held3 (fun w'=>w'.cell? ⟨gc,0,none⟩=some (.slice (some ⟨gm,0,none⟩) M M))
    (first|exact hc0|exact hc2|exact dC hc2 (by simp only;exact HSEP.out.n3.1.symm))
    (first
     | (go_at_call 225;(with_reducible refine (jr g A n c ws (5 * j) 5 5 _ rfl (jl HW.out.r) (HI.out.below HB.out).drewd HNE.out HIN.out (by omega) (by omega) (by omega)).mono ?_);rintro e w2 ⟨rfl,hr2,hg2⟩;have W2:=Hd (HW.out.drew.got HSEP.out hr2 hg2);have B2:=Hd (eO HB.out.drew hg2 HB.out.size hlo);clear hr2 hg2;have hc2:=aC (k:=0) W2.out.tile rfl;have hcm2:=aC (k:=j) W2.out.mux (fC (by rw [HNL.out];exact hlt));have hfm2:=aJ W2.out.mux j))
   go_wp2_with fail
   go_roundw
   case rel =>
    have hset:=W2.out.setMux HSEP.out j (ag ws (5 * j) 5)
    have e:=qR (ws:=ws) (p:=0) (b:=5) hlt
    rw [Nat.zero_add] at e
    refine ⟨j+1,by omega,by go_num,?_,?_⟩
    ·simp only [e] at hset
     exact hset
    ·exact B2.out.setCell (p:=⟨gm,j,none⟩) hlom _
   case measure=>simp [intOf];omega
  ·have hjm:M=j:=by omega
   subst hjm
   have hc1:wr.cell? ⟨gc,1,none⟩=some (.slice (some ⟨gl,0,none⟩) 2 2):=aC HW.out.tile rfl
   go_wp2_with fail
   clear hc1
   go_loopw [31] (fun i wr=>∃e:Nat,e<=2/\i = .int .i64 e/\DW wr ⟨g,gr,gc,gm,gl,g0,g1⟩ A n c (5 * M+30 * e) M (tl2 ws M e)/\Below w.heap.size w wr) (fun i _=>2 - (intOf i).toNat)
   case atStart=>exact ⟨0,by omega,rfl,HW.out,HB.out⟩
   case round =>
    obtain ⟨e,he,rfl,hdw,hbe⟩:=hrel
    have HW:=Hd hdw
    have HB:=Hd hbe
    clear hdw hbe
    rcases (by omega:e=0∨e=1∨e=2) with h|h|h
    ·subst h
     have hc1:=aC (k:=1) HW.out.tile rfl
     have hcs:=aC (k:=0) HW.out.les rfl
     go_wp2_with fail
     clear hc1 hcs
     go_loopw [41] (fun i wr=>∃j:Nat,j<=4/\i = .int .i64 j/\DW wr ⟨g,gr,gc,gm,gl,g0,g1⟩ A n c (5 * M+3 * j) M ⟨dQ ws 0 5 M M,dQ ws (5 * M) 3 4 j,Z4,0,0,0,0,0,0,0,0⟩/\Below w.heap.size w wr) (fun i _=>4 - (intOf i).toNat)
     case atStart=>exact ⟨0,Nat.zero_le _,rfl,HW.out,HB.out⟩
     case round =>
      obtain ⟨j,hj,rfl,hdw,hbe⟩:=hrel
      have HW:=Hd hdw
      have HB:=Hd hbe
      clear hdw hbe
      by_cases hlt:j<4
      ·have hc1:=aC (k:=1) HW.out.tile rfl
       have hcs:=aC (k:=0) HW.out.les rfl
       have HNL:=Hd (fu (ws:=ws) (p:=5 * M) (b:=3) (N:=4) (k:=j) (by omega))
       have i0:(0:Int)<=(j:Int):=by omega
       have i1:(j:Int)<4:=by omega
       go_wp2_with fail
       go_region_held3 (fun w'=>w'.cell? ⟨gc,1,none⟩=some (.slice (some ⟨gl,0,none⟩) 2 2)/\w'.cell? ⟨gl,0,none⟩=some (.slice (some ⟨g0,0,none⟩) 4 4))
        (first|exact ⟨hc1,hcs⟩|exact ⟨hc2,hcs2⟩|exact ⟨dC hc2 (by simp only;exact HSEP.out.n3.2.2.1.symm),dC hcs2 (by simp only;exact HSEP.out.n5.1.symm)⟩)
        (first
         | (go_at_call 225;(with_reducible refine (jr g A n c ws (5 * M+3 * j) 3 3 _ rfl (jl HW.out.r) (HI.out.below HB.out).drewd HNE.out HIN.out (by omega) (by omega) (by omega)).mono ?_);rintro e w2 ⟨rfl,hr2,hg2⟩;have W2:=Hd (HW.out.drew.got HSEP.out hr2 hg2);have B2:=Hd (eO HB.out.drew hg2 HB.out.size hlo);clear hr2 hg2;have hc2:=aC (k:=1) W2.out.tile rfl;have hcs2:=aC (k:=0) W2.out.les rfl;have hcm2:=aC (k:=j) W2.out.s0 (fC (by rw [HNL.out];exact hlt));have hfm2:=aJ W2.out.s0 j))
       go_wp2_with fail
       go_roundw
       case rel =>
        have hset:=W2.out.setS0 HSEP.out j (ag ws (5 * M+3 * j) 3)
        have e:=qR (ws:=ws) (p:=5 * M) (b:=3) hlt
        refine ⟨j+1,by omega,by go_num,?_,?_⟩
        ·simp only [e] at hset
         exact hset
        ·exact B2.out.setCell (p:=⟨g0,j,none⟩) hlo0 _
       case measure=>simp [intOf];omega
      ·have hj4:j=4:=by omega
       subst hj4
       go_wp2_with fail
       replace HW:=Hd (show DW wr _ A n c (5 * M+12) M _ from HW.out)
       have hc1:=aC (k:=1) HW.out.tile rfl
       go_region_held3 (fun w'=>w'.cell? ⟨gc,1,none⟩=some (.slice (some ⟨gl,0,none⟩) 2 2))
        (first|exact hc1|exact hc2|exact dC hc2 (by simp only;exact HSEP.out.n3.2.1.symm))
        (first
         | (go_at_call 225;(with_reducible refine (jr g A n c ws (5 * M+12) 16 16 _ rfl (jl HW.out.r) (HI.out.below HB.out).drewd HNE.out HIN.out (by omega) (by omega) (by omega)).mono ?_);rintro e w2 ⟨rfl,hr2,hg2⟩;have W2:=Hd (HW.out.drew.got HSEP.out hr2 hg2);have B2:=Hd (eO HB.out.drew hg2 HB.out.size hlo);clear hr2 hg2;have hc2:=aC (k:=1) W2.out.tile rfl;have hcm2:=aC (k:=1) W2.out.les rfl;have hfm2:=aJ W2.out.les 1))
       replace HW:=Hd (show DW _ _ A n c (5 * M+28) M _ from W2.out.setA0 HSEP.out (ag ws (5 * M+12) 16))
       replace HB:=Hd (B2.out.setCell (p:=⟨gl,1,none⟩) hlol (.int .i64 (ag ws (5 * M+12) 16)))
       generalize w2.setCell ⟨gl,1,none⟩ (.int .i64 (ag ws (5 * M+12) 16))=w3 at *
       clear hc1 hc2 hcm2 hfm2 W2 B2
       go_wp2_with fail
       have hc1:=aC (k:=1) HW.out.tile rfl
       go_region_held3 (fun w'=>w'.cell? ⟨gc,1,none⟩=some (.slice (some ⟨gl,0,none⟩) 2 2))
        (first|exact hc1|exact hc2|exact dC hc2 (by simp only;exact HSEP.out.n3.2.1.symm))
        (first
         | (go_at_call 225;(with_reducible refine (jr g A n c ws (5 * M+28) 1 1 _ rfl (jl HW.out.r) (HI.out.below HB.out).drewd HNE.out HIN.out (by omega) (by omega) (by omega)).mono ?_);rintro e w2 ⟨rfl,hr2,hg2⟩;have W2:=Hd (HW.out.drew.got HSEP.out hr2 hg2);have B2:=Hd (eO HB.out.drew hg2 HB.out.size hlo);clear hr2 hg2;have hc2:=aC (k:=1) W2.out.tile rfl;have hcm2:=aC (k:=2) W2.out.les rfl;have hfm2:=aJ W2.out.les 2))
       replace HW:=Hd (show DW _ _ A n c (5 * M+29) M _ from W2.out.setB0 HSEP.out (ag ws (5 * M+28) 1))
       replace HB:=Hd (B2.out.setCell (p:=⟨gl,2,none⟩) hlol (.int .i64 (ag ws (5 * M+28) 1)))
       generalize w2.setCell ⟨gl,2,none⟩ (.int .i64 (ag ws (5 * M+28) 1))=w4 at *
       clear hc1 hc2 hcm2 hfm2 W2 B2
       go_wp2_with fail
       have hc1:=aC (k:=1) HW.out.tile rfl
       go_region_held3 (fun w'=>w'.cell? ⟨gc,1,none⟩=some (.slice (some ⟨gl,0,none⟩) 2 2))
        (first|exact hc1|exact hc2|exact dC hc2 (by simp only;exact HSEP.out.n3.2.1.symm))
        (first
         | (go_at_call 225;(with_reducible refine (jr g A n c ws (5 * M+29) 1 1 _ rfl (jl HW.out.r) (HI.out.below HB.out).drewd HNE.out HIN.out (by omega) (by omega) (by omega)).mono ?_);rintro e w2 ⟨rfl,hr2,hg2⟩;have W2:=Hd (HW.out.drew.got HSEP.out hr2 hg2);have B2:=Hd (eO HB.out.drew hg2 HB.out.size hlo);clear hr2 hg2;have hc2:=aC (k:=1) W2.out.tile rfl;have hcm2:=aC (k:=3) W2.out.les rfl;have hfm2:=aJ W2.out.les 3))
       replace HW:=Hd (show DW _ _ A n c (5 * M+30) M _ from W2.out.setC0 HSEP.out (ag ws (5 * M+29) 1))
       replace HB:=Hd (B2.out.setCell (p:=⟨gl,3,none⟩) hlol (.int .i64 (ag ws (5 * M+29) 1)))
       generalize w2.setCell ⟨gl,3,none⟩ (.int .i64 (ag ws (5 * M+29) 1))=w5 at *
       clear hc1 hc2 hcm2 hfm2 W2 B2
       go_wp2_with fail
       go_roundw
       case rel=>exact ⟨1,by omega,by go_num,HW.out,HB.out⟩
       case measure=>simp [intOf]
    ·subst h
     have hc1:=aC (k:=1) HW.out.tile rfl
     have hcs:=aC (k:=4) HW.out.les rfl
     go_wp2_with fail
     clear hc1 hcs
     go_loopw [41] (fun i wr=>∃j:Nat,j<=4/\i = .int .i64 j/\DW wr ⟨g,gr,gc,gm,gl,g0,g1⟩ A n c (5 * M+30+3 * j) M ⟨dQ ws 0 5 M M,dQ ws (5 * M) 3 4 4,dQ ws (5 * M+30) 3 4 j,ag ws (5 * M+12) 16,ag ws (5 * M+28) 1,ag ws (5 * M+29) 1,0,0,0,0,0⟩/\Below w.heap.size w wr) (fun i _=>4 - (intOf i).toNat)
     case atStart=>exact ⟨0,Nat.zero_le _,rfl,HW.out,HB.out⟩
     case round =>
      obtain ⟨j,hj,rfl,hdw,hbe⟩:=hrel
      have HW:=Hd hdw
      have HB:=Hd hbe
      clear hdw hbe
      by_cases hlt:j<4
      ·have hc1:=aC (k:=1) HW.out.tile rfl
       have hcs:=aC (k:=4) HW.out.les rfl
       have HNL:=Hd (fu (ws:=ws) (p:=5 * M+30) (b:=3) (N:=4) (k:=j) (by omega))
       have i0:(0:Int)<=(j:Int):=by omega
       have i1:(j:Int)<4:=by omega
       go_wp2_with fail
       go_region_held3 (fun w'=>w'.cell? ⟨gc,1,none⟩=some (.slice (some ⟨gl,0,none⟩) 2 2)/\w'.cell? ⟨gl,4,none⟩=some (.slice (some ⟨g1,0,none⟩) 4 4))
        (first|exact ⟨hc1,hcs⟩|exact ⟨hc2,hcs2⟩|exact ⟨dC hc2 (by simp only;exact HSEP.out.n3.2.2.2.symm),dC hcs2 (by simp only;exact HSEP.out.n5.2.1.symm)⟩)
        (first
         | (go_at_call 225;(with_reducible refine (jr g A n c ws (5 * M+30+3 * j) 3 3 _ rfl (jl HW.out.r) (HI.out.below HB.out).drewd HNE.out HIN.out (by omega) (by omega) (by omega)).mono ?_);rintro e w2 ⟨rfl,hr2,hg2⟩;have W2:=Hd (HW.out.drew.got HSEP.out hr2 hg2);have B2:=Hd (eO HB.out.drew hg2 HB.out.size hlo);clear hr2 hg2;have hc2:=aC (k:=1) W2.out.tile rfl;have hcs2:=aC (k:=4) W2.out.les rfl;have hcm2:=aC (k:=j) W2.out.s1 (fC (by rw [HNL.out];exact hlt));have hfm2:=aJ W2.out.s1 j))
       go_wp2_with fail
       go_roundw
       case rel =>
        have hset:=W2.out.setS1 HSEP.out j (ag ws (5 * M+30+3 * j) 3)
        have e:=qR (ws:=ws) (p:=5 * M+30) (b:=3) hlt
        refine ⟨j+1,by omega,by go_num,?_,?_⟩
        ·simp only [e] at hset
         exact hset
        ·exact B2.out.setCell (p:=⟨g1,j,none⟩) hlo1 _
       case measure=>simp [intOf];omega
      ·have hj4:j=4:=by omega
       subst hj4
       go_wp2_with fail
       replace HW:=Hd (show DW wr _ A n c (5 * M+30+12) M _ from HW.out)
       have hc1:=aC (k:=1) HW.out.tile rfl
       go_region_held3 (fun w'=>w'.cell? ⟨gc,1,none⟩=some (.slice (some ⟨gl,0,none⟩) 2 2))
        (first|exact hc1|exact hc2|exact dC hc2 (by simp only;exact HSEP.out.n3.2.1.symm))
        (first
         | (go_at_call 225;(with_reducible refine (jr g A n c ws (5 * M+30+12) 16 16 _ rfl (jl HW.out.r) (HI.out.below HB.out).drewd HNE.out HIN.out (by omega) (by omega) (by omega)).mono ?_);rintro e w2 ⟨rfl,hr2,hg2⟩;have W2:=Hd (HW.out.drew.got HSEP.out hr2 hg2);have B2:=Hd (eO HB.out.drew hg2 HB.out.size hlo);clear hr2 hg2;have hc2:=aC (k:=1) W2.out.tile rfl;have hcm2:=aC (k:=5) W2.out.les rfl;have hfm2:=aJ W2.out.les 5))
       replace HW:=Hd (show DW _ _ A n c (5 * M+30+28) M _ from W2.out.setA1 HSEP.out (ag ws (5 * M+30+12) 16))
       replace HB:=Hd (B2.out.setCell (p:=⟨gl,5,none⟩) hlol (.int .i64 (ag ws (5 * M+30+12) 16)))
       generalize w2.setCell ⟨gl,5,none⟩ (.int .i64 (ag ws (5 * M+30+12) 16))=w3 at *
       clear hc1 hc2 hcm2 hfm2 W2 B2
       go_wp2_with fail
       have hc1:=aC (k:=1) HW.out.tile rfl
       go_region_held3 (fun w'=>w'.cell? ⟨gc,1,none⟩=some (.slice (some ⟨gl,0,none⟩) 2 2))
        (first|exact hc1|exact hc2|exact dC hc2 (by simp only;exact HSEP.out.n3.2.1.symm))
        (first
         | (go_at_call 225;(with_reducible refine (jr g A n c ws (5 * M+30+28) 1 1 _ rfl (jl HW.out.r) (HI.out.below HB.out).drewd HNE.out HIN.out (by omega) (by omega) (by omega)).mono ?_);rintro e w2 ⟨rfl,hr2,hg2⟩;have W2:=Hd (HW.out.drew.got HSEP.out hr2 hg2);have B2:=Hd (eO HB.out.drew hg2 HB.out.size hlo);clear hr2 hg2;have hc2:=aC (k:=1) W2.out.tile rfl;have hcm2:=aC (k:=6) W2.out.les rfl;have hfm2:=aJ W2.out.les 6))
       replace HW:=Hd (show DW _ _ A n c (5 * M+30+29) M _ from W2.out.setB1 HSEP.out (ag ws (5 * M+30+28) 1))
       replace HB:=Hd (B2.out.setCell (p:=⟨gl,6,none⟩) hlol (.int .i64 (ag ws (5 * M+30+28) 1)))
       generalize w2.setCell ⟨gl,6,none⟩ (.int .i64 (ag ws (5 * M+30+28) 1))=w4 at *
       clear hc1 hc2 hcm2 hfm2 W2 B2
       go_wp2_with fail
       have hc1:=aC (k:=1) HW.out.tile rfl
       go_region_held3 (fun w'=>w'.cell? ⟨gc,1,none⟩=some (.slice (some ⟨gl,0,none⟩) 2 2))
        (first|exact hc1|exact hc2|exact dC hc2 (by simp only;exact HSEP.out.n3.2.1.symm))
        (first
         | (go_at_call 225;(with_reducible refine (jr g A n c ws (5 * M+30+29) 1 1 _ rfl (jl HW.out.r) (HI.out.below HB.out).drewd HNE.out HIN.out (by omega) (by omega) (by omega)).mono ?_);rintro e w2 ⟨rfl,hr2,hg2⟩;have W2:=Hd (HW.out.drew.got HSEP.out hr2 hg2);have B2:=Hd (eO HB.out.drew hg2 HB.out.size hlo);clear hr2 hg2;have hc2:=aC (k:=1) W2.out.tile rfl;have hcm2:=aC (k:=7) W2.out.les rfl;have hfm2:=aJ W2.out.les 7))
       replace HW:=Hd (show DW _ _ A n c (5 * M+30+30) M _ from W2.out.setC1 HSEP.out (ag ws (5 * M+30+29) 1))
       replace HB:=Hd (B2.out.setCell (p:=⟨gl,7,none⟩) hlol (.int .i64 (ag ws (5 * M+30+29) 1)))
       generalize w2.setCell ⟨gl,7,none⟩ (.int .i64 (ag ws (5 * M+30+29) 1))=w5 at *
       clear hc1 hc2 hcm2 hfm2 W2 B2
       go_wp2_with fail
       go_roundw
       case rel=>exact ⟨2,by omega,by go_num,HW.out,HB.out⟩
       case measure=>simp [intOf]
    ·subst h
     go_wp2_with fail
     refine (jr g A n c ws (5 * M+60) 2 2 _ rfl HW.out.r (HI.out.below HB.out) HNE.out HIN.out (by omega) (by omega) (by omega)).mono ?_
     rintro e w2 ⟨rfl,hr2,hg2⟩
     have W2:=Hd (HW.out.got HSEP.out hr2 hg2)
     have B2:=Hd (eO HB.out hg2 HB.out.size hlo)
     have hcm2:=aC (k:=2) W2.out.tile rfl
     have hfm2:=aJ W2.out.tile 2
     clear hr2 hg2
     go_wp2_with fail
     replace HW:=Hd (W2.out.setPad HSEP.out (ag ws (5 * M+60) 2))
     replace HB:=Hd (B2.out.setCell (p:=⟨gc,2,none⟩) hlog (.int .i64 (ag ws (5 * M+60) 2)))
     generalize w2.setCell ⟨gc,2,none⟩ (.int .i64 (ag ws (5 * M+60) 2))=w3 at *
     clear hcm2 hfm2 W2 B2
     refine (jr g A n c ws (5 * M+62) 5 5 _ rfl HW.out.r (HI.out.below HB.out) HNE.out HIN.out (by omega) (by omega) (by omega)).mono ?_
     rintro e w4 ⟨rfl,hr2,hg2⟩
     have W2:=Hd (HW.out.got HSEP.out hr2 hg2)
     have B2:=Hd (eO HB.out hg2 HB.out.size hlo)
     have hcm2:=aC (k:=3) W2.out.tile rfl
     have hfm2:=aJ W2.out.tile 3
     have m0:=aC (k:=0) W2.out.tile rfl
     have m1:=aC (k:=1) W2.out.tile rfl
     have m2:=aC (k:=2) W2.out.tile rfl
     have r0:=aC (k:=0) W2.out.res rfl
     have r1:=aC (k:=1) W2.out.res rfl
     have r2:=aC (k:=2) W2.out.res rfl
     have r3:=aC (k:=3) W2.out.res rfl
     have s0:=aJ W2.out.res 0
     have s1:=aJ W2.out.res 1
     have s2:=aJ W2.out.res 2
     have s3:=aJ W2.out.res 3
     have hne:gr≠gc:=HSEP.out.n2.1
     clear hr2 hg2
     go_wp2_with fail
     have X:=W2.out.setRam HSEP.out (ag ws (5 * M+62) 5)
     have Y:=(((X.dt.setR HSEP.out 0 (.slice (some ⟨gm,0,none⟩) M M)).setR HSEP.out 1 (.slice (some ⟨gl,0,none⟩) 2 2)).setR HSEP.out 2 (.int .i64 (ag ws (5 * M+60) 2))).setR HSEP.out 3 (.int .i64 (ag ws (5 * M+62) 5))
     have hx:=gV (v0 := .slice (some ⟨gm,0,none⟩) M M) (v1 := .slice (some ⟨gl,0,none⟩) 2 2) (v2 := .int .i64 (ag ws (5 * M+60) 2)) (v3 := .int .i64 (ag ws (5 * M+62) 5)) X.res
     have O:=Y.done (M:=M) HSEP.out (fu (Nat.le_refl _)) (by unfold maxLen;omega) (fu (Nat.le_refl _)) (fu (Nat.le_refl _))
     have hB:=((((B2.out.setCell (p:=⟨gc,3,none⟩) hlog (.int .i64 (ag ws (5 * M+62) 5))).setCell (p:=⟨gr,0,none⟩) hlor (.slice (some ⟨gm,0,none⟩) M M)).setCell (p:=⟨gr,1,none⟩) hlor (.slice (some ⟨gl,0,none⟩) 2 2)).setCell (p:=⟨gr,2,none⟩) hlor (.int .i64 (ag ws (5 * M+60) 2))).setCell (p:=⟨gr,3,none⟩) hlor (.int .i64 (ag ws (5 * M+62) 5))
     have eT:T=_:=EK HDT.out
     simp only at hx O
     generalize ((((w4.setCell ⟨gc,3,none⟩ (.int .i64 (ag ws (5 * M+62) 5))).setCell ⟨gr,0,none⟩ (.slice (some ⟨gm,0,none⟩) M M)).setCell ⟨gr,1,none⟩ (.slice (some ⟨gl,0,none⟩) 2 2)).setCell ⟨gr,2,none⟩ (.int .i64 (ag ws (5 * M+60) 2))).setCell ⟨gr,3,none⟩ (.int .i64 (ag ws (5 * M+62) 5))=w5 at *
     have d0:=aC (k:=0) hx rfl
     have d1:=aC (k:=1) hx rfl
     have d2:=aC (k:=2) hx rfl
     have d3:=aC (k:=3) hx rfl
     exact bodyPost_ret (v := .agg #[.slice (some ⟨gm,0,none⟩) M M,.slice (some ⟨gl,0,none⟩) 2 2,.int .i64 (ag ws (5 * M+60) 2),.int .i64 (ag ws (5 * M+62) 5)]) (by simp [results,Tryz.results192,go_sem,d0,d1,d2,d3]) rfl (HP.out _ _ _ eT ⟨_,_,rfl,O⟩ hB)
end Go.Proofs.YtignkfhdkcgkgaaGreat
