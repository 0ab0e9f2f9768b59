/- The walk of the law FnExactRoutedDelays (printed by mkrdw.py). -/
import Derived.Test.YtofihjoanjkdmaaGreatDelCut
import Derived.Test.YtofihjoanjkdmaaGreatLayD5
import Derived.Test.YtofihjoanjkdmaaGreatLayDS6
namespace Go.Proofs.YtofihjoanjkdmaaGreat
set_option maxHeartbeats 16000000
set_option maxRecDepth 100000
open Go.RowKit
theorem zi {k:Int} (h:0<=k) (a b c d e f g:Nat):0<=k+(a:Int)+(b:Int)+(c:Int)+(d:Int)+(e:Int)+(f:Int)+(g:Int):=by omega
theorem FQ (x:Lay) (X0 X1 J z q j G D u I g H B K:Option Addr) (sn ln on bn cn pn rn:Nat) (w:World) (h:j5 w x X0 X1 J z q j G sn sn ln ln on on bn bn cn cn pn pn rn rn) (k:j5 w x D u I g H B K sn sn ln ln on on bn bn cn cn pn pn rn rn) (Q:af x.cells<=1048576) :
  Calls Tryz.prog 12 #[sZ x X0 X1 J z q j G sn sn ln ln on on bn bn cn cn pn pn rn rn,sZ x D u I g H B K sn sn ln ln on on bn bn cn cn pn pn rn rn] w fun e w'=>e = .returned (.bool true)/\Below w.heap.size w w' :=
 vO X0 D X1 u J I z g q H j B G K sn sn sn sn ln ln ln ln on on on on bn bn bn bn cn cn cn cn pn pn pn pn rn rn rn rn x w h.sq k.sq h.lt k.lt h.ou k.ou h.bl k.bl h.cn k.cn h.pl k.pl h.ro k.ro (by omega)
theorem tK (Y:Dev) (x:Lay) (SA LA OA BA CA PA RA:Option Addr) (sn sc ln lc on oc bn bc cn cc pn pc rn rc:Nat) (w:World) (_hw0:Y.wf) (hN:fo w x.net SA LA OA sn sc ln lc on oc) (hB:RdC w w.heap.size (aa x.blocks) (.slice BA bn bc)) (hC:RdC w w.heap.size (ag x.conns) (.slice CA cn cc)) (hP:RdC w w.heap.size (aG x.place) (.slice PA pn pc)) (hR:RdC w w.heap.size (bE x.routes) (.slice RA rn rc)) (hb:BdL x.cells) :
  Calls Tryz.prog 4 #[.agg (dv Y),sZ x SA LA OA BA CA PA RA sn sc ln lc on oc bn bc cn cc pn pc rn rc] w fun e w'=>e = .returned (.bool true)/\Below w.heap.size w w':=by
 have h1:j5 w x SA LA OA BA CA PA RA sn sc ln lc on oc bn bc cn cc pn pc rn rc:=⟨hN.sq,hN.lt,hN.ou,hB,hC,hP,hR⟩
 clear hN hB hC hP hR
 have H1:=Hd h1
 clear h1
 have ci:=Hd (aD (aD (Below.refl w.heap.size w) (.cells (dv Y) 23)) (.cells #[.int .i64 x.net.inputs,.slice SA sn sc,.slice LA ln lc,.slice OA on oc,.slice BA bn bc,.slice CA cn cc,.slice PA pn pc,.slice RA rn rc] 33))
 have V:=bS (.cells #[.int .i64 x.net.inputs,.slice SA sn sc,.slice LA ln lc,.slice OA on oc,.slice BA bn bc,.slice CA cn cc,.slice PA pn pc,.slice RA rn rc] 33) (aI w (.cells (dv Y) 23))
 have R:=aI (w.alloc (.cells (dv Y) 23)) (.cells #[.int .i64 x.net.inputs,.slice SA sn sc,.slice LA ln lc,.slice OA on oc,.slice BA bn bc,.slice CA cn cc,.slice PA pn pc,.slice RA rn rc] 33)
 simp only [World.size_alloc] at R
 obtain ⟨al,ad⟩:=hd2 V R
 clear V R
 go_enter Tryz.func4,Tryz.ntmps4
 go_upto_region 1 with fail
 obtain ⟨gX,bC⟩:∃g,w.heap.size=g:=⟨_,rfl⟩
 obtain ⟨gY,bT⟩:∃g,gX+1=g:=⟨_,rfl⟩
 generalize (w.alloc (.cells (dv Y) 23)).alloc (.cells #[.int .i64 x.net.inputs,.slice SA sn sc,.slice LA ln lc,.slice OA on oc,.slice BA bn bc,.slice CA cn cc,.slice PA pn pc,.slice RA rn rc] 33)=W9 at *
 rw [bC] at al ad
 rw [bT] at ad
 (try rw [bC])
 (try rw [bT])
 clear bC bT
 have V:=aC (Below.refl W9.heap.size W9) al.out
 have R:=aC (Below.refl W9.heap.size W9) ad.out
 obtain ⟨x0,x1,x2,x3⟩:=cs4 V
 obtain ⟨y0,y1,y2,y3,y4,y5,y6,y7⟩:=cs8 R
 have lx:=aB V
 have ly:=aB R
 clear V R
 go_wp2_with fail
 have K0:=Hd (H1.out.below ci.out)
 refine (xg SA LA OA BA CA PA RA sn sc ln lc on oc bn bc cn cc pn pc rn rc x 1048576 _ K0.out.sq K0.out.lt K0.out.ou K0.out.bl K0.out.cn K0.out.pl K0.out.ro (by omega) (by omega) hb).mono ?_
 rintro e w1 ⟨rfl,b1⟩
 have bH:=Hd (aA ci.out b1)
 have B1:=Hd b1
 clear x0 x1 x2 x3 lx y0 y1 y2 y3 y4 y5 y6 y7 ly b1 K0
 by_cases g1:(af x.cells:Int)<=1048576
 rotate_left
 ·rw [aZ g1]
  go_wp2_with fail
  go_ret
  exact ⟨rfl,bH.out⟩
 rw [bF g1]
 have hz:af x.cells<=1048576:=by omega
 have bu:=Ej x
 have bR:=EO hz
 have cb:=Hd bR
 obtain ⟨e1,e2,e3,e4⟩:=H1.out.lens
 have bA:=bR.place
 rw [e3] at bA
 clear e1 e2 e3 e4 bR hb
 have cQ:=Hd bu
 obtain ⟨r,hr⟩:∃r,tb (iQ Y x)=r:=⟨_,rfl⟩
 have aS:=En Y x
 obtain ⟨D,bm⟩:∃D,delD Y x=D:=⟨_,rfl⟩
 rw [bm] at aS
 have ah:=Hd aS
 have ds:=aS.cl
 have dk:=aS.cs
 have c3:=Hd (fun (v:World) (B0 B1 B2 B3 B4 B5 B6:Option Addr) (h:j5 v x B0 B1 B2 B3 B4 B5 B6 sn sn ln ln on on bn bn cn cn pn pn rn rn)=>(by
  have h2:=sj Y x B0 B1 B2 B3 B4 B5 B6 sn sn ln ln on on bn bn cn cn pn pn rn rn v h cb.out (Nat.le_refl _) bA
  rwa [hr,bm] at h2:Calls Tryz.prog 13 #[.agg (dv Y),sZ x B0 B1 B2 B3 B4 B5 B6 sn sn ln ln on on bn bn cn cn pn pn rn rn] v fun e w'=>∃AL nL cL AS nS cS,e = .returned (.tuple #[.agg #[.slice AL nL cL,.slice AS nS cS],.bool r])/\aJ v w' [.cel (bg D.luts) (.slice AL nL cL),.cel (bg D.seqs) (.slice AS nS cS)]))
 have cd:=Hd (fun (v:World) (B0 B1 B2 B3 B4 B5 B6:Option Addr) (h:j5 v x B0 B1 B2 B3 B4 B5 B6 sn sn ln ln on on bn bn cn cn pn pn rn rn)=>(by
  have h2:=tL Y x B0 B1 B2 B3 B4 B5 B6 sn sn ln ln on on bn bn cn cn pn pn rn rn v h cb.out (Nat.le_refl _) bA
  rwa [hr,bm] at h2:Calls Tryz.prog 14 #[.agg (dv Y),sZ x B0 B1 B2 B3 B4 B5 B6 sn sn ln ln on on bn bn cn cn pn pn rn rn] v fun e w'=>∃AL nL cL AS nS cS,e = .returned (.tuple #[.agg #[.slice AL nL cL,.slice AS nS cS],.bool r])/\aJ v w' [.cel (bg D.luts) (.slice AL nL cL),.cel (bg D.seqs) (.slice AS nS cS)]))
 clear hr bm aS bu
 have V:=aC B1.out al.out
 have R:=aC B1.out ad.out
 obtain ⟨x0,x1,x2,x3⟩:=cs4 V
 obtain ⟨y0,y1,y2,y3,y4,y5,y6,y7⟩:=cs8 R
 have lx:=aB V
 have ly:=aB R
 clear V R
 go_upto_region 5 with fail
 go_cut [6,7] (fun p u w'=>fu w1 D r p u w')
 case first =>
  have j:=Below.refl w1.heap.size w1
  have b5:w1.heap.size<=w1.drew.heap.size:=Nat.le_refl _
  go_region_held3 (fun w'=>Below w1.heap.size w1 w'/\∀b o,b<w1.heap.size→w'.cell? ⟨b,o,none⟩=w1.cell? ⟨b,o,none⟩)
   (first|with_reducible exact ⟨j,(bG j).1⟩|with_reducible exact ⟨j.drew,(bG j.drew).1⟩|(refine ⟨?_,(bG ?_).1⟩ <;> (repeat (first|with_reducible exact j|with_reducible exact j.drew|with_reducible refine aD ?_ _|with_reducible refine Below.drew ?_|with_reducible refine Below.setCell ?_ (by simp only;omega) _))))
   (first
    | (go_at_call 9;(with_reducible refine (pz Y _).mono ?_);rintro e wk ⟨rfl,I⟩;have G:=aA (a:=w1) (by first|with_reducible exact j|with_reducible exact j.drew|with_reducible exact aD j _|with_reducible exact (aD j _).drew|with_reducible exact aD j.drew _|with_reducible exact (aD j.drew _).drew) I;(try replace B:=aA (by first|with_reducible exact B|with_reducible exact B.drew|with_reducible exact aD B _|with_reducible exact (aD B _).drew|with_reducible exact aD B.drew _|with_reducible exact (aD B.drew _).drew) I);have H:=Hd I;have ai:=G.size;have q:=I.size;(try simp only [World.size_drew] at q);(try simp only [World.size_alloc] at q);(try have z:=Nat.lt_of_lt_of_le z q);(try have z:=Nat.lt_of_succ_le q);obtain ⟨hcc,aj⟩:=bG I;clear I;replace j:=G)
    | (go_at_call 10;(with_reducible refine (xW x SA LA OA BA CA PA RA sn sc ln lc on oc bn bc cn cc pn pc rn rc _ (H1.out.below (aA bH.out (by first|with_reducible exact j|with_reducible exact j.drew|with_reducible exact aD j _|with_reducible exact (aD j _).drew|with_reducible exact aD j.drew _|with_reducible exact (aD j.drew _).drew))) hz).mono ?_);rintro e wk ⟨A0,A1,A2,A3,A4,A5,A6,rfl,o3⟩;have I:=o3.bel;have G:=aA (a:=w1) (by first|with_reducible exact j|with_reducible exact j.drew|with_reducible exact aD j _|with_reducible exact (aD j _).drew|with_reducible exact aD j.drew _|with_reducible exact (aD j.drew _).drew) I;have Q:=Hd I;have B:=Below.refl wk.heap.size wk;have O3:=Hd (om o3 0 rfl);clear o3;have ai:=G.size;have q:=I.size;(try simp only [World.size_drew] at q);(try simp only [World.size_alloc] at q);(try have z:=Nat.lt_of_lt_of_le z q);(try have z:=Nat.lt_of_succ_le q);obtain ⟨hcc,aj⟩:=bG I;clear I;replace j:=G)
    | (go_at_call 13;(with_reducible refine (c3.out _ A0 A1 A2 A3 A4 A5 A6 (O3.out.below (by first|with_reducible exact B|with_reducible exact B.drew|with_reducible exact aD B _|with_reducible exact (aD B _).drew|with_reducible exact aD B.drew _|with_reducible exact (aD B.drew _).drew))).mono ?_);rintro e wk ⟨AL,nL,cL,AS,nS,cS,rfl,hs⟩;have I:=hs.bel;have G:=aA (a:=w1) (by first|with_reducible exact j|with_reducible exact j.drew|with_reducible exact aD j _|with_reducible exact (aD j _).drew|with_reducible exact aD j.drew _|with_reducible exact (aD j.drew _).drew) I;have J:=Hd hs;clear hs;have ai:=G.size;have q:=I.size;(try simp only [World.size_drew] at q);(try simp only [World.size_alloc] at q);(try have z:=Nat.lt_of_lt_of_le z q);(try have z:=Nat.lt_of_succ_le q);obtain ⟨hcc,aj⟩:=bG I;clear I;replace j:=G))
  all_goals
   go_wp2_with fail
   go_meet
   try simp only [oU,l8]
   first|((with_reducible refine (xX j J.out ?_)) <;> first|omega|(simp;omega))|((with_reducible refine (xY ?_ j J.out ?_)) <;> first|omega|(simp;omega)|exact aI _ _|exact aC H.out (aI _ _)|exact aC Q.out (aI _ _)|exact aC H.out (aC Q.out (aI _ _))|exact aC Q.out (aC H.out (aI _ _)))|((with_reducible refine fu.drew (xX j J.out ?_)) <;> first|omega|(simp;omega))|((with_reducible refine fu.drew (xY ?_ j J.out ?_)) <;> first|omega|(simp;omega)|exact aI _ _|exact aC H.out (aI _ _)|exact aC Q.out (aI _ _)|exact aC H.out (aC Q.out (aI _ _))|exact aC Q.out (aC H.out (aI _ _)))|((with_reducible refine fu.drew (fu.drew (xX j J.out ?_))) <;> first|omega|(simp;omega))|((with_reducible refine fu.drew (fu.drew (xY ?_ j J.out ?_))) <;> first|omega|(simp;omega)|exact aI _ _|exact aC H.out (aI _ _)|exact aC Q.out (aI _ _)|exact aC H.out (aC Q.out (aI _ _))|exact aC Q.out (aC H.out (aI _ _)))
 clear x0 x1 x2 x3 lx y0 y1 y2 y3 y4 y5 y6 y7 ly
 obtain ⟨gA,AA,nA,cA,SS,mA,dA,rfl,rfl,hS⟩:=hcut
 have HA:=Hd hS
 have B2:=Hd (aA B1.out hS.bel)
 have a4:=Hd (aA bH.out hS.bel)
 obtain ⟨w2,rfl⟩:∃y,y=wc:=⟨wc,rfl⟩
 clear hS
 have bN:=Hd (HA.out.blk 0 rfl).1
 have dB:nA<=400:=by have h:=(HA.out.rdc 1 0 rfl rfl rfl).rowsRN;have h2:=ah.out.ln;omega
 have dr:mA<=400:=by have h:=(HA.out.rdc 1 1 rfl rfl rfl).rowsRN;have h2:=ah.out.sn;omega
 have bJ:=Hd (HA.out.rdc 1 0 rfl rfl rfl)
 have bI:=Hd (HA.out.rdc 1 1 rfl rfl rfl)
 clear HA
 have ZL:=Hd (fun y R=>Nat.le_trans (ah.out.luts y R) (by omega:1100<=1099511627776))
 have ZS:=Hd (fun y R=>Nat.le_trans (ah.out.seqs y R) (by omega:1100<=1099511627776))
 have V:=aC B2.out al.out
 have R:=aC B2.out ad.out
 obtain ⟨x0,x1,x2,x3⟩:=cs4 V
 obtain ⟨y0,y1,y2,y3,y4,y5,y6,y7⟩:=cs8 R
 have lx:=aB V
 have ly:=aB R
 clear V R
 go_wp2_with fail
 refine (xW x SA LA OA BA CA PA RA sn sc ln lc on oc bn bc cn cc pn pc rn rc _ (H1.out.below a4.out) hz).mono ?_
 rintro e w3 ⟨X0,X1,X2,X3,X4,X5,X6,rfl,o3⟩
 have bB:=Hd (o3.pushBlk #[.int .i64 x.net.inputs,.slice X0 sn sn,.slice X1 ln ln,.slice X2 on on,.slice X3 bn bn,.slice X4 cn cn,.slice X5 pn pn,.slice X6 rn rn] 46)
 clear o3 x0 x1 x2 x3 lx y0 y1 y2 y3 y4 y5 y6 y7 ly
 go_upto_region 7 with fail
 obtain ⟨gz,bz⟩:∃g,w3.heap.size=g:=⟨_,rfl⟩
 generalize w3.alloc (.cells #[.int .i64 x.net.inputs,.slice X0 sn sn,.slice X1 ln ln,.slice X2 on on,.slice X3 bn bn,.slice X4 cn cn,.slice X5 pn pn,.slice X6 rn rn] 46)=w4 at *
 rw [bz] at bB
 (try rw [bz])
 clear bz
 have HX:Hid (aJ w2 w4 [.cels (Em x) (BX x X0 X1 X2 X3 X4 X5 X6 sn ln on bn cn pn rn),.blk gz #[.int .i64 x.net.inputs,.slice X0 sn sn,.slice X1 ln ln,.slice X2 on on,.slice X3 bn bn,.slice X4 cn cn,.slice X5 pn pn,.slice X6 rn rn] 46]):=bB
 clear bB
 have B4:=Hd (aA B2.out HX.out.bel)
 have dm:=Hd (aA a4.out HX.out.bel)
 have OX:=Hd (om HX.out 0 rfl)
 have V:=aC B4.out al.out
 have R:=aC B4.out ad.out
 obtain ⟨x0,x1,x2,x3⟩:=cs4 V
 obtain ⟨y0,y1,y2,y3,y4,y5,y6,y7⟩:=cs8 R
 have lx:=aB V
 have ly:=aB R
 clear V R
 obtain ⟨z0,z1,z2,z3,z4,z5,z6,z7,lz⟩:=j6 ((HX.out.blk 1 rfl).1)
 go_cut [9,10] (fun p u w'=>fu w4 D r p u w')
 case first =>
  have j:=Below.refl w4.heap.size w4
  have b5:w4.heap.size<=w4.drew.heap.size:=Nat.le_refl _
  go_region_held3 (fun w'=>Below w4.heap.size w4 w'/\∀b o,b<w4.heap.size→w'.cell? ⟨b,o,none⟩=w4.cell? ⟨b,o,none⟩)
   (first|with_reducible exact ⟨j,(bG j).1⟩|with_reducible exact ⟨j.drew,(bG j.drew).1⟩|(refine ⟨?_,(bG ?_).1⟩ <;> (repeat (first|with_reducible exact j|with_reducible exact j.drew|with_reducible refine aD ?_ _|with_reducible refine Below.drew ?_|with_reducible refine Below.setCell ?_ (by simp only;omega) _))))
   (first
    | (go_at_call 9;(with_reducible refine (pz Y _).mono ?_);rintro e wk ⟨rfl,I⟩;have G:=aA (a:=w4) (by first|with_reducible exact j|with_reducible exact j.drew|with_reducible exact aD j _|with_reducible exact (aD j _).drew|with_reducible exact aD j.drew _|with_reducible exact (aD j.drew _).drew) I;have H:=Hd I;have ai:=G.size;have q:=I.size;(try simp only [World.size_drew] at q);(try simp only [World.size_alloc] at q);(try have z:=Nat.lt_of_lt_of_le z q);(try have z:=Nat.lt_of_succ_le q);obtain ⟨hcc,aj⟩:=bG I;clear I;replace j:=G)
    | (go_at_call 14;(with_reducible refine (cd.out _ X0 X1 X2 X3 X4 X5 X6 (OX.out.below (by first|with_reducible exact j|with_reducible exact j.drew|with_reducible exact aD j _|with_reducible exact (aD j _).drew|with_reducible exact aD j.drew _|with_reducible exact (aD j.drew _).drew))).mono ?_);rintro e wk ⟨AL,nL,cL,AS,nS,cS,rfl,hs⟩;have I:=hs.bel;have G:=aA (a:=w4) (by first|with_reducible exact j|with_reducible exact j.drew|with_reducible exact aD j _|with_reducible exact (aD j _).drew|with_reducible exact aD j.drew _|with_reducible exact (aD j.drew _).drew) I;have J:=Hd hs;clear hs;have ai:=G.size;have q:=I.size;(try simp only [World.size_drew] at q);(try simp only [World.size_alloc] at q);(try have z:=Nat.lt_of_lt_of_le z q);(try have z:=Nat.lt_of_succ_le q);obtain ⟨hcc,aj⟩:=bG I;clear I;replace j:=G))
  all_goals
   go_wp2_with fail
   go_meet
   try simp only [oU,l8]
   first|((with_reducible refine (xX j J.out ?_)) <;> first|omega|(simp;omega))|((with_reducible refine (xY ?_ j J.out ?_)) <;> first|omega|(simp;omega)|exact aI _ _|exact aC H.out (aI _ _))|((with_reducible refine fu.drew (xX j J.out ?_)) <;> first|omega|(simp;omega))|((with_reducible refine fu.drew (xY ?_ j J.out ?_)) <;> first|omega|(simp;omega)|exact aI _ _|exact aC H.out (aI _ _))|((with_reducible refine fu.drew (fu.drew (xX j J.out ?_))) <;> first|omega|(simp;omega))|((with_reducible refine fu.drew (fu.drew (xY ?_ j J.out ?_))) <;> first|omega|(simp;omega)|exact aI _ _|exact aC H.out (aI _ _))
 clear x0 x1 x2 x3 lx y0 y1 y2 y3 y4 y5 y6 y7 ly z0 z1 z2 z3 z4 z5 z6 z7 lz
 obtain ⟨gG,AG,nG,cG,SG,mG,dG,rfl,rfl,hS⟩:=hcut
 have Z:Hid (aJ w2 wc [.cels (Em x) (BX x X0 X1 X2 X3 X4 X5 X6 sn ln on bn cn pn rn),.blk gz #[.int .i64 x.net.inputs,.slice X0 sn sn,.slice X1 ln ln,.slice X2 on on,.slice X3 bn bn,.slice X4 cn cn,.slice X5 pn pn,.slice X6 rn rn] 46,.blk gG #[.slice AG nG cG,.slice SG mG dG] 52,.cels [bg D.luts,bg D.seqs] [.slice AG nG cG,.slice SG mG dG]]):=Hd (HX.out.join hS)
 obtain ⟨w5,rfl⟩:∃y,y=wc:=⟨wc,rfl⟩
 clear hS HX OX
 have dl:nG<=400:=by have h:=(Z.out.rdc 3 0 rfl rfl rfl).rowsRN;have h2:=ah.out.ln;omega
 have dz:mG<=400:=by have h:=(Z.out.rdc 3 1 rfl rfl rfl).rowsRN;have h2:=ah.out.sn;omega
 obtain ⟨g0,g1,lg⟩:=fZ ((Z.out.blk 2 rfl).1)
 obtain ⟨Y,a1,la⟩:=fZ (aC Z.out.bel bN.out)
 go_wp2_with fail
 refine (rH D.luts D.seqs AG SG AA SS nG cG mG dG nA cA mA dA _ (Z.out.rdc 3 0 rfl rfl rfl) (Z.out.rdc 3 1 rfl rfl rfl) (bJ.out.below Z.out.bel) (bI.out.below Z.out.bel) ZL.out ZS.out (by omega) (by omega)).mono ?_
 rintro _ w6 ⟨rfl,b6⟩
 have ax:=Hd (Z.out.below b6)
 clear b6 g0 g1 lg Y a1 la
 have V:=aC (aA B2.out ax.out.bel) al.out
 have R:=aC (aA B2.out ax.out.bel) ad.out
 obtain ⟨x0,x1,x2,x3⟩:=cs4 V
 obtain ⟨y0,y1,y2,y3,y4,y5,y6,y7⟩:=cs8 R
 have lx:=aB V
 have ly:=aB R
 clear V R
 obtain ⟨z0,z1,z2,z3,z4,z5,z6,z7,lz⟩:=j6 ((ax.out.blk 1 rfl).1)
 have dt:(r != r)=false:=by cases r <;> rfl
 go_upto_region 10 with fail
 have ch:=Hd (fun (v:World) (hv:Below w6.heap.size w6 v)=>xW x SA LA OA BA CA PA RA sn sc ln lc on oc bn bc cn cc pn pc rn rc v (H1.out.below (aA a4.out (aA ax.out.bel hv))) hz)
 have OX:=Hd (om ax.out 0 rfl)
 have j:=(Below.refl w6.heap.size w6).drew
 go_region_held3 (fun w'=>Below w6.heap.size w6 w'/\∀b o,b<w6.heap.size→w'.cell? ⟨b,o,none⟩=w6.cell? ⟨b,o,none⟩)
  (first|exact ⟨j,(bG j).1⟩)
  (first
   | (go_at_call 10;(with_reducible refine (ch.out _ j).mono ?_);rintro e v3 ⟨A0,A1,A2,A3,A4,A5,A6,rfl,o3⟩;have O6:=Hd (om o3 0 rfl);replace j:=aA j o3.bel;clear o3)
   | (go_at_call 12;(with_reducible refine (FQ x X0 X1 X2 X3 X4 X5 X6 A0 A1 A2 A3 A4 A5 A6 sn ln on bn cn pn rn _ (OX.out.below j) O6.out hz).mono ?_);rintro _ v7 ⟨rfl,b7⟩;replace j:=aA j b7;clear b7))
 clear x0 x1 x2 x3 lx y0 y1 y2 y3 y4 y5 y6 y7 ly z0 z1 z2 z3 z4 z5 z6 z7 lz ch OX O6
 have cg:=Hd (ax.out.below j)
 obtain ⟨w7,rfl⟩:∃y,y=v7:=⟨v7,rfl⟩
 clear j
 obtain ⟨z0,z1,z2,z3,z4,z5,z6,z7,lz⟩:=j6 ((cg.out.blk 1 rfl).1)
 go_wp2_with fail
 refine (vC _ x X0 X1 X2 X3 X4 X5 X6 sn sn ln ln on on bn bn cn cn pn pn rn rn w2 _ 0 1 _ cg.out rfl (by omega) (by have h:=cQ.out;omega)).mono ?_
 rintro _ w8 ⟨rfl,t8⟩
 have bY:=Hd (t8.sub (List.sublist_cons_self _ _))
 clear z0 z1 z2 z3 z4 z5 z6 z7 lz
 have dw:=zi (by omega:(0:Int)<=1) (aY (bD x.net.seqs)) (aY (bK x.net.luts)) (aY (aG x.net.outs)) (aY (aa x.blocks)) (aY (ag x.conns)) (aY (aG x.place)) (aY (bE x.routes))
 generalize (1:Int)+(aY (bD x.net.seqs):Int)+(aY (bK x.net.luts):Int)+(aY (aG x.net.outs):Int)+(aY (aa x.blocks):Int)+(aY (ag x.conns):Int)+(aY (aG x.place):Int)+(aY (bE x.routes):Int)=K at *
 clear t8
 have ak:Hid (aJ w2 w8 [.blk gz #[.int .i64 x.net.inputs,.slice X0 sn sn,.slice X1 ln ln,.slice X2 on on,.slice X3 bn bn,.slice X4 cn cn,.slice X5 pn pn,.slice X6 rn rn] 46,.blk gG #[.slice AG nG cG,.slice SG mG dG] 52,.cels [bg D.luts,bg D.seqs] [.slice AG nG cG,.slice SG mG dG]]):=bY
 clear bY
 have dE:¬K<0:=by omega
 obtain ⟨g0,g1,lg⟩:=fZ ((ak.out.blk 1 rfl).1)
 obtain ⟨Y,a1,la⟩:=fZ (aC ak.out.bel bN.out)
 go_wp2_with fail
 refine (rH D.luts D.seqs AG SG AA SS nG cG mG dG nA cA mA dA _ (ak.out.rdc 2 0 rfl rfl rfl) (ak.out.rdc 2 1 rfl rfl rfl) (bJ.out.below ak.out.bel) (bI.out.below ak.out.bel) ZL.out ZS.out (by omega) (by omega)).mono ?_
 rintro _ w9 ⟨rfl,b9⟩
 have ce:=Hd (ak.out.below b9)
 clear b9 g0 g1 lg Y a1 la
 obtain ⟨g0,g1,lg⟩:=fZ ((ce.out.blk 1 rfl).1)
 generalize cm:aY (bg D.luts)=q1 at *
 generalize b0:aY (bg D.seqs)=q2 at *
 obtain ⟨ae,ay⟩:=hd2 cm b0
 clear cm b0
 go_wp2_with fail
 refine (vD D.luts D.seqs AG SG nG cG mG dG [] [] w2 _ 2 1 _ ce.out rfl (by omega) (by rw [ae.out,ay.out];omega)).mono ?_
 rw [ae.out,ay.out]
 rintro _ cO ⟨rfl,cB⟩
 clear g0 g1 lg
 have ar:Hid (aJ w2 cO [.blk gz #[.int .i64 x.net.inputs,.slice X0 sn sn,.slice X1 ln ln,.slice X2 on on,.slice X3 bn bn,.slice X4 cn cn,.slice X5 pn pn,.slice X6 rn rn] 46,.blk gG #[.slice AG nG cG,.slice SG mG dG] 52,.cels [mkC 1 (bg D.luts),mkC (1+(q1:Int)) (bg D.seqs)] [.slice AG nG cG,.slice SG mG dG]]):=Hd cB
 clear cB
 have dj:¬((1:Int)+(q1:Int)+(q2:Int)<0):=by omega
 obtain ⟨g0,g1,lg⟩:=fZ ((ar.out.blk 1 rfl).1)
 go_wp2_with fail
 refine (sH D.luts D.seqs AG SG nG cG mG dG 1 _ (ar.out.rdc 2 0 rfl rfl rfl) (by rw [ae.out];exact ar.out.rdc 2 1 rfl rfl rfl) (by omega) (by rw [ae.out,ay.out];omega) (by omega) (by omega)).mono ?_
 rw [ae.out,ay.out]
 rintro _ W ⟨rfl,cz⟩
 have au:=Hd (ar.out.below cz)
 clear cz g0 g1 lg
 have V:=aC (aA B2.out au.out.bel) al.out
 have R:=aC (aA B2.out au.out.bel) ad.out
 obtain ⟨x0,x1,x2,x3⟩:=cs4 V
 obtain ⟨y0,y1,y2,y3,y4,y5,y6,y7⟩:=cs8 R
 have lx:=aB V
 have ly:=aB R
 clear V R
 have cV:=Hd (aA a4.out au.out.bel)
 go_upto_region 24 with fail
 go_cut [14,15] (fun p u w'=>fu W D r p u w')
 case first =>
  have j:=Below.refl W.heap.size W
  have b5:W.heap.size<=W.drew.heap.size:=Nat.le_refl _
  go_region_held3 (fun w'=>Below W.heap.size W w'/\∀b o,b<W.heap.size→w'.cell? ⟨b,o,none⟩=W.cell? ⟨b,o,none⟩)
   (first|with_reducible exact ⟨j,(bG j).1⟩|with_reducible exact ⟨j.drew,(bG j.drew).1⟩|(refine ⟨?_,(bG ?_).1⟩ <;> (repeat (first|with_reducible exact j|with_reducible exact j.drew|with_reducible refine aD ?_ _|with_reducible refine Below.drew ?_|with_reducible refine Below.setCell ?_ (by simp only;omega) _))))
   (first
    | (go_at_call 9;(with_reducible refine (pz Y _).mono ?_);rintro e wk ⟨rfl,I⟩;have G:=aA (a:=W) (by first|with_reducible exact j|with_reducible exact j.drew|with_reducible exact aD j _|with_reducible exact (aD j _).drew|with_reducible exact aD j.drew _|with_reducible exact (aD j.drew _).drew) I;(try replace B:=aA (by first|with_reducible exact B|with_reducible exact B.drew|with_reducible exact aD B _|with_reducible exact (aD B _).drew|with_reducible exact aD B.drew _|with_reducible exact (aD B.drew _).drew) I);have H:=Hd I;have ai:=G.size;have q:=I.size;(try simp only [World.size_drew] at q);(try simp only [World.size_alloc] at q);(try have z:=Nat.lt_of_lt_of_le z q);(try have z:=Nat.lt_of_succ_le q);obtain ⟨hcc,aj⟩:=bG I;clear I;replace j:=G)
    | (go_at_call 10;(with_reducible refine (xW x SA LA OA BA CA PA RA sn sc ln lc on oc bn bc cn cc pn pc rn rc _ (H1.out.below (aA cV.out (by first|with_reducible exact j|with_reducible exact j.drew|with_reducible exact aD j _|with_reducible exact (aD j _).drew|with_reducible exact aD j.drew _|with_reducible exact (aD j.drew _).drew))) hz).mono ?_);rintro e wk ⟨A0,A1,A2,A3,A4,A5,A6,rfl,o3⟩;have I:=o3.bel;have G:=aA (a:=W) (by first|with_reducible exact j|with_reducible exact j.drew|with_reducible exact aD j _|with_reducible exact (aD j _).drew|with_reducible exact aD j.drew _|with_reducible exact (aD j.drew _).drew) I;have Q:=Hd I;have B:=Below.refl wk.heap.size wk;have O3:=Hd (om o3 0 rfl);clear o3;have ai:=G.size;have q:=I.size;(try simp only [World.size_drew] at q);(try simp only [World.size_alloc] at q);(try have z:=Nat.lt_of_lt_of_le z q);(try have z:=Nat.lt_of_succ_le q);obtain ⟨hcc,aj⟩:=bG I;clear I;replace j:=G)
    | (go_at_call 14;(with_reducible refine (cd.out _ A0 A1 A2 A3 A4 A5 A6 (O3.out.below (by first|with_reducible exact B|with_reducible exact B.drew|with_reducible exact aD B _|with_reducible exact (aD B _).drew|with_reducible exact aD B.drew _|with_reducible exact (aD B.drew _).drew))).mono ?_);rintro e wk ⟨AL,nL,cL,AS,nS,cS,rfl,hs⟩;have I:=hs.bel;have G:=aA (a:=W) (by first|with_reducible exact j|with_reducible exact j.drew|with_reducible exact aD j _|with_reducible exact (aD j _).drew|with_reducible exact aD j.drew _|with_reducible exact (aD j.drew _).drew) I;have J:=Hd hs;clear hs;have ai:=G.size;have q:=I.size;(try simp only [World.size_drew] at q);(try simp only [World.size_alloc] at q);(try have z:=Nat.lt_of_lt_of_le z q);(try have z:=Nat.lt_of_succ_le q);obtain ⟨hcc,aj⟩:=bG I;clear I;replace j:=G))
  all_goals
   go_wp2_with fail
   go_meet
   try simp only [oU,l8]
   first|((with_reducible refine (xX j J.out ?_)) <;> first|omega|(simp;omega))|((with_reducible refine (xY ?_ j J.out ?_)) <;> first|omega|(simp;omega)|exact aI _ _|exact aC H.out (aI _ _)|exact aC Q.out (aI _ _)|exact aC H.out (aC Q.out (aI _ _))|exact aC Q.out (aC H.out (aI _ _)))|((with_reducible refine fu.drew (xX j J.out ?_)) <;> first|omega|(simp;omega))|((with_reducible refine fu.drew (xY ?_ j J.out ?_)) <;> first|omega|(simp;omega)|exact aI _ _|exact aC H.out (aI _ _)|exact aC Q.out (aI _ _)|exact aC H.out (aC Q.out (aI _ _))|exact aC Q.out (aC H.out (aI _ _)))|((with_reducible refine fu.drew (fu.drew (xX j J.out ?_))) <;> first|omega|(simp;omega))|((with_reducible refine fu.drew (fu.drew (xY ?_ j J.out ?_))) <;> first|omega|(simp;omega)|exact aI _ _|exact aC H.out (aI _ _)|exact aC Q.out (aI _ _)|exact aC H.out (aC Q.out (aI _ _))|exact aC Q.out (aC H.out (aI _ _)))
 clear x0 x1 x2 x3 lx y0 y1 y2 y3 y4 y5 y6 y7 ly
 obtain ⟨gH,AH,nH,cH,SH,mH,dH,rfl,rfl,hS⟩:=hcut
 have U:Hid (aJ w2 wc [.blk gz #[.int .i64 x.net.inputs,.slice X0 sn sn,.slice X1 ln ln,.slice X2 on on,.slice X3 bn bn,.slice X4 cn cn,.slice X5 pn pn,.slice X6 rn rn] 46,.blk gG #[.slice AG nG cG,.slice SG mG dG] 52,.cels [mkC 1 (bg D.luts),mkC (1+(q1:Int)) (bg D.seqs)] [.slice AG nG cG,.slice SG mG dG],.blk gH #[.slice AH nH cH,.slice SH mH dH] 52,.cels [bg D.luts,bg D.seqs] [.slice AH nH cH,.slice SH mH dH]]):=Hd (au.out.join hS)
 obtain ⟨dF,rfl⟩:∃y,y=wc:=⟨wc,rfl⟩
 clear hS
 have dn:nH<=400:=by have h:=(U.out.rdc 4 0 rfl rfl rfl).rowsRN;have h2:=ah.out.ln;omega
 have dh:mH<=400:=by have h:=(U.out.rdc 4 1 rfl rfl rfl).rowsRN;have h2:=ah.out.sn;omega
 obtain ⟨g0,g1,lg⟩:=fZ ((U.out.blk 3 rfl).1)
 obtain ⟨Y,a1,la⟩:=fZ (aC U.out.bel bN.out)
 go_wp2_with fail
 refine (rH D.luts D.seqs AH SH AA SS nH cH mH dH nA cA mA dA _ (U.out.rdc 4 0 rfl rfl rfl) (U.out.rdc 4 1 rfl rfl rfl) (bJ.out.below U.out.bel) (bI.out.below U.out.bel) ZL.out ZS.out (by omega) (by omega)).mono ?_
 rintro _ di ⟨rfl,cC⟩
 have av:=Hd (U.out.below cC)
 clear cC g0 g1 lg Y a1 la
 obtain ⟨g0,g1,lg⟩:=fZ ((av.out.blk 1 rfl).1)
 go_wp2_with fail
 refine (sH D.luts D.seqs AG SG nG cG mG dG 1 _ (av.out.rdc 2 0 rfl rfl rfl) (by rw [ae.out];exact av.out.rdc 2 1 rfl rfl rfl) (by omega) (by rw [ae.out,ay.out];omega) (by omega) (by omega)).mono ?_
 rw [ae.out,ay.out]
 rintro _ dy ⟨rfl,b4⟩
 have cq:=Hd (av.out.below b4)
 clear b4 g0 g1 lg
 go_wp2_with fail
 go_ret
 exact ⟨rfl,aA a4.out cq.out.bel⟩
end Go.Proofs.YtofihjoanjkdmaaGreat
