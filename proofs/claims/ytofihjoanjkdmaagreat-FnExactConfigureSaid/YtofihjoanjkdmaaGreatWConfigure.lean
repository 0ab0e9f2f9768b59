/- The walk of the law FnExactConfigure (printed by mkcdw.py). -/
import Derived.Test.YtofihjoanjkdmaaGreatCfgLaw
import Derived.Test.YtofihjoanjkdmaaGreatLayC4
import Derived.Test.YtofihjoanjkdmaaGreatLayC5
import Derived.Test.YtofihjoanjkdmaaGreatLayEq
namespace Go.Proofs.YtofihjoanjkdmaaGreat
set_option maxHeartbeats 16000000
set_option maxRecDepth 100000
open Go.RowKit
theorem yu {k:Int} (h:0<=k) (a b c d e f g:Nat):0<=k+(a:Int)+(b:Int)+(c:Int)+(d:Int)+(e:Int)+(f:Int)+(g:Int):=by omega
theorem FX (x:Lay) (X0 X1 G I j J z u D g B q K H:Option Addr) (sn ln on bn cn pn rn:Nat) (w:World) (h:lK w x X0 X1 G I j J z sn sn ln ln on on bn bn cn cn pn pn rn rn) (k:lK w x u D g B q K H sn sn ln ln on on bn bn cn cn pn pn rn rn) (Q:af x.cells<=1048576) :
  Calls Tryz.prog 12 #[vR x X0 X1 G I j J z sn sn ln ln on on bn bn cn cn pn pn rn rn,vR x u D g B q K H sn sn ln ln on on bn bn cn cn pn pn rn rn] w fun e w'=>e = .returned (.bool true)/\Below w.heap.size w w' :=
 vF X0 u X1 D G g I B j q J K z H sn sn sn sn ln ln ln ln on on on on bn bn bn bn cn cn cn cn pn pn pn pn rn rn rn rn x w h.sq k.sq h.lt k.lt h.ou k.ou h.bl k.bl h.cn k.cn h.pl k.pl h.ro k.ro (by omega)
theorem vo (W:Dev) (x:Lay) (SA LA OA BA CA PA RA:Option Addr) (sn sc ln lc on oc bn bc cn cc pn pc rn rc:Nat) (w:World) (_hw0:W.wf) (hN:fU w x.net SA LA OA sn sc ln lc on oc) (hB:RdC w w.heap.size (aa x.blocks) (.slice BA bn bc)) (hC:RdC w w.heap.size (ah x.conns) (.slice CA cn cc)) (hP:RdC w w.heap.size (aH x.place) (.slice PA pn pc)) (hR:RdC w w.heap.size (bH x.routes) (.slice RA rn rc)) (hb:BdL x.cells) :
  Calls Tryz.prog 5 #[.agg (dv W),vR x SA LA OA BA CA PA RA sn sc ln lc on oc bn bc cn cc pn pc rn rc] w fun e w'=>e = .returned (.bool true)/\Below w.heap.size w w':=by
 have h1:lK w x SA LA OA BA CA PA RA sn sc ln lc on oc bn bc cn cc pn pc rn rc:=⟨hN.sq,hN.lt,hN.ou,hB,hC,hP,hR⟩
 clear hN hB hC hP hR
 have H1:=Hd h1
 clear h1
 have ce:=Hd (aB (aB (Below.refl w.heap.size w) (.cells (dv W) 23)) (.cells #[.int .i64 x.net.inputs,.slice SA sn sc,.slice LA ln lc,.slice OA on oc,.slice BA bn bc,.slice CA cn cc,.slice PA pn pc,.slice RA rn rc] 33))
 have Q:=aW (.cells #[.int .i64 x.net.inputs,.slice SA sn sc,.slice LA ln lc,.slice OA on oc,.slice BA bn bc,.slice CA cn cc,.slice PA pn pc,.slice RA rn rc] 33) (aI w (.cells (dv W) 23))
 have J:=aI (w.alloc (.cells (dv W) 23)) (.cells #[.int .i64 x.net.inputs,.slice SA sn sc,.slice LA ln lc,.slice OA on oc,.slice BA bn bc,.slice CA cn cc,.slice PA pn pc,.slice RA rn rc] 33)
 simp only [World.size_alloc] at J
 obtain ⟨Z,V⟩:=hd2 Q J
 clear Q J
 go_enter Tryz.func5,Tryz.ntmps5
 go_upto_region 1 with fail
 obtain ⟨gX,bt⟩:∃g,w.heap.size=g:=⟨_,rfl⟩
 obtain ⟨gY,bf⟩:∃g,gX+1=g:=⟨_,rfl⟩
 generalize (w.alloc (.cells (dv W) 23)).alloc (.cells #[.int .i64 x.net.inputs,.slice SA sn sc,.slice LA ln lc,.slice OA on oc,.slice BA bn bc,.slice CA cn cc,.slice PA pn pc,.slice RA rn rc] 33)=W9 at *
 rw [bt] at Z V
 rw [bf] at V
 (try rw [bt])
 (try rw [bf])
 clear bt bf
 have Q:=aD (Below.refl W9.heap.size W9) Z.out
 have J:=aD (Below.refl W9.heap.size W9) V.out
 obtain ⟨x0,x1,x2,x3⟩:=cs4 Q
 obtain ⟨y0,y1,y2,y3,y4,y5,y6,y7⟩:=cs8 J
 have lx:=aC Q
 have ly:=aC J
 clear Q J
 go_wp2_with fail
 have K0:=Hd (H1.out.below ce.out)
 refine (xe SA LA OA BA CA PA RA sn sc ln lc on oc bn bc cn cc pn pc rn rc x 1048576 _ K0.out.sq K0.out.lt K0.out.ou K0.out.bl K0.out.cn K0.out.pl K0.out.ro (by omega) (by omega) hb).mono ?_
 rintro e w1 ⟨rfl,b1⟩
 have bk:=Hd (aA ce.out b1)
 have B1:=Hd b1
 clear x0 x1 x2 x3 lx y0 y1 y2 y3 y4 y5 y6 y7 ly b1 K0
 by_cases g1:(af x.cells:Int)<=1048576
 rotate_left
 ·rw [aZ g1]
  go_wp2_with fail
  go_ret
  exact ⟨rfl,bk.out⟩
 rw [bI g1]
 have hz:af x.cells<=1048576:=by omega
 have bd:=FE x
 have bj:=EZ hz
 have bF:=Hd bj
 obtain ⟨e1,e2,e3,e4⟩:=H1.out.lens
 have bp:=bj.place
 rw [e3] at bp
 clear e1 e2 e3 e4 bj hb
 have co:=Hd bd
 obtain ⟨r,hr⟩:∃r,tb (jB W x)=r:=⟨_,rfl⟩
 have bg:=FH W x
 obtain ⟨D,a2⟩:∃D,cfgD W x=D:=⟨_,rfl⟩
 rw [a2] at bg
 have bP:=Hd bg
 have cr:=Hd (fun (v:World) (B0 B1 B2 B3 B4 B5 B6:Option Addr) (h:lK v x B0 B1 B2 B3 B4 B5 B6 sn sn ln ln on on bn bn cn cn pn pn rn rn)=>(by
  have h2:=vU W x B0 B1 B2 B3 B4 B5 B6 sn sn ln ln on on bn bn cn cn pn pn rn rn v h bF.out (Nat.le_refl _) bp
  rwa [hr,a2] at h2:Calls Tryz.prog 19 #[.agg (dv W),vR x B0 B1 B2 B3 B4 B5 B6 sn sn ln ln on on bn bn cn cn pn pn rn rn] v fun e w'=>∃AL nL cL,e = .returned (.tuple #[.slice AL nL cL,.bool r])/\aJ v w' [.cel (dW D) (.slice AL nL cL)]))
 have b8:=Hd (fun (v:World) (B0 B1 B2 B3 B4 B5 B6:Option Addr) (h:lK v x B0 B1 B2 B3 B4 B5 B6 sn sn ln ln on on bn bn cn cn pn pn rn rn)=>(by
  have h2:=wE W x B0 B1 B2 B3 B4 B5 B6 sn sn ln ln on on bn bn cn cn pn pn rn rn v h bF.out (Nat.le_refl _) bp
  rwa [hr,a2] at h2:Calls Tryz.prog 20 #[.agg (dv W),vR x B0 B1 B2 B3 B4 B5 B6 sn sn ln ln on on bn bn cn cn pn pn rn rn] v fun e w'=>∃AL nL cL,e = .returned (.tuple #[.slice AL nL cL,.bool r])/\aJ v w' [.cel (dW D) (.slice AL nL cL)]))
 clear hr a2 bg bd
 have Q:=aD B1.out Z.out
 have J:=aD B1.out V.out
 obtain ⟨x0,x1,x2,x3⟩:=cs4 Q
 obtain ⟨y0,y1,y2,y3,y4,y5,y6,y7⟩:=cs8 J
 have lx:=aC Q
 have ly:=aC J
 clear Q J
 go_upto_region 5 with fail
 go_cut [6,7] (fun p u w'=>oh w1 D r p u w')
 case first =>
  have z:=Below.refl w1.heap.size w1
  have bS:w1.heap.size<=w1.drew.heap.size:=Nat.le_refl _
  go_region_held3 (fun w'=>Below w1.heap.size w1 w'/\∀b o,b<w1.heap.size→w'.cell? ⟨b,o,none⟩=w1.cell? ⟨b,o,none⟩)
   (first|with_reducible exact ⟨z,(bG z).1⟩|with_reducible exact ⟨z.drew,(bG z.drew).1⟩|(refine ⟨?_,(bG ?_).1⟩ <;> (repeat (first|with_reducible exact z|with_reducible exact z.drew|with_reducible refine aB ?_ _|with_reducible refine Below.drew ?_|with_reducible refine Below.setCell ?_ (by simp only;omega) _))))
   (first
    | (go_at_call 9;(with_reducible refine (qE W _).mono ?_);rintro e wk ⟨rfl,I⟩;have H:=aA (a:=w1) (by first|with_reducible exact z|with_reducible exact z.drew|with_reducible exact aB z _|with_reducible exact (aB z _).drew|with_reducible exact aB z.drew _|with_reducible exact (aB z.drew _).drew) I;(try replace G:=aA (by first|with_reducible exact G|with_reducible exact G.drew|with_reducible exact aB G _|with_reducible exact (aB G _).drew|with_reducible exact aB G.drew _|with_reducible exact (aB G.drew _).drew) I);have Y:=H.size;have j:=I.size;(try simp only [World.size_drew] at j);(try simp only [World.size_alloc] at j);(try have B:=Nat.lt_of_lt_of_le B j);(try have B:=Nat.lt_of_succ_le j);obtain ⟨hcc,ae⟩:=bG I;clear I;replace z:=H)
    | (go_at_call 10;(with_reducible refine (xy x SA LA OA BA CA PA RA sn sc ln lc on oc bn bc cn cc pn pc rn rc _ (H1.out.below (aA bk.out (by first|with_reducible exact z|with_reducible exact z.drew|with_reducible exact aB z _|with_reducible exact (aB z _).drew|with_reducible exact aB z.drew _|with_reducible exact (aB z.drew _).drew))) hz).mono ?_);rintro e wk ⟨A0,A1,A2,A3,A4,A5,A6,rfl,o3⟩;have I:=o3.bel;have H:=aA (a:=w1) (by first|with_reducible exact z|with_reducible exact z.drew|with_reducible exact aB z _|with_reducible exact (aB z _).drew|with_reducible exact aB z.drew _|with_reducible exact (aB z.drew _).drew) I;have G:=Below.refl wk.heap.size wk;have O3:=Hd (pI o3 0 rfl);clear o3;have Y:=H.size;have j:=I.size;(try simp only [World.size_drew] at j);(try simp only [World.size_alloc] at j);(try have B:=Nat.lt_of_lt_of_le B j);(try have B:=Nat.lt_of_succ_le j);obtain ⟨hcc,ae⟩:=bG I;clear I;replace z:=H)
    | (go_at_call 19;(with_reducible refine (cr.out _ A0 A1 A2 A3 A4 A5 A6 (O3.out.below (by first|with_reducible exact G|with_reducible exact G.drew|with_reducible exact aB G _|with_reducible exact (aB G _).drew|with_reducible exact aB G.drew _|with_reducible exact (aB G.drew _).drew))).mono ?_);rintro e wk ⟨AL,nL,cL,rfl,hs⟩;have I:=hs.bel;have H:=aA (a:=w1) (by first|with_reducible exact z|with_reducible exact z.drew|with_reducible exact aB z _|with_reducible exact (aB z _).drew|with_reducible exact aB z.drew _|with_reducible exact (aB z.drew _).drew) I;have U:=Hd hs;clear hs;have Y:=H.size;have j:=I.size;(try simp only [World.size_drew] at j);(try simp only [World.size_alloc] at j);(try have B:=Nat.lt_of_lt_of_le B j);(try have B:=Nat.lt_of_succ_le j);obtain ⟨hcc,ae⟩:=bG I;clear I;replace z:=H))
  all_goals
   go_wp2_with fail
   go_meet
   first|((with_reducible refine DU z U.out ?_) <;> first|omega|(simp;omega))|((with_reducible refine oh.drew (DU z U.out ?_)) <;> first|omega|(simp;omega))
 clear x0 x1 x2 x3 lx y0 y1 y2 y3 y4 y5 y6 y7 ly
 obtain ⟨AA,nA,cA,rfl,rfl,hS⟩:=hcut
 have bs:=Hd (hS.rd 0 rfl)
 have B2:=Hd (aA B1.out hS.bel)
 have aO:=Hd (aA bk.out hS.bel)
 obtain ⟨w2,rfl⟩:∃y,y=wc:=⟨wc,rfl⟩
 clear hS
 have HZ:Hid (tsN D D.length<=1099511627776):=Nat.le_trans bP.out.2 (by omega)
 have Q:=aD B2.out Z.out
 have J:=aD B2.out V.out
 obtain ⟨x0,x1,x2,x3⟩:=cs4 Q
 obtain ⟨y0,y1,y2,y3,y4,y5,y6,y7⟩:=cs8 J
 have lx:=aC Q
 have ly:=aC J
 clear Q J
 go_wp2_with fail
 refine (xy x SA LA OA BA CA PA RA sn sc ln lc on oc bn bc cn cc pn pc rn rc _ (H1.out.below aO.out) hz).mono ?_
 rintro e w3 ⟨X0,X1,X2,X3,X4,X5,X6,rfl,o3⟩
 have bm:=Hd (o3.pushBlk #[.int .i64 x.net.inputs,.slice X0 sn sn,.slice X1 ln ln,.slice X2 on on,.slice X3 bn bn,.slice X4 cn cn,.slice X5 pn pn,.slice X6 rn rn] 46)
 clear o3 x0 x1 x2 x3 lx y0 y1 y2 y3 y4 y5 y6 y7 ly
 go_upto_region 7 with fail
 obtain ⟨gz,bu⟩:∃g,w3.heap.size=g:=⟨_,rfl⟩
 generalize w3.alloc (.cells #[.int .i64 x.net.inputs,.slice X0 sn sn,.slice X1 ln ln,.slice X2 on on,.slice X3 bn bn,.slice X4 cn cn,.slice X5 pn pn,.slice X6 rn rn] 46)=w4 at *
 rw [bu] at bm
 (try rw [bu])
 clear bu
 have HX:Hid (aJ w2 w4 [.cels (FF x) (Bt x X0 X1 X2 X3 X4 X5 X6 sn ln on bn cn pn rn),.blk gz #[.int .i64 x.net.inputs,.slice X0 sn sn,.slice X1 ln ln,.slice X2 on on,.slice X3 bn bn,.slice X4 cn cn,.slice X5 pn pn,.slice X6 rn rn] 46]):=bm
 clear bm
 have B4:=Hd (aA B2.out HX.out.bel)
 have cV:=Hd (aA aO.out HX.out.bel)
 have OX:=Hd (pI HX.out 0 rfl)
 have Q:=aD B4.out Z.out
 have J:=aD B4.out V.out
 obtain ⟨x0,x1,x2,x3⟩:=cs4 Q
 obtain ⟨y0,y1,y2,y3,y4,y5,y6,y7⟩:=cs8 J
 have lx:=aC Q
 have ly:=aC J
 clear Q J
 obtain ⟨z0,z1,z2,z3,z4,z5,z6,z7,lz⟩:=mK ((HX.out.blk 1 rfl).1)
 go_cut [9,10] (fun p u w'=>oh w4 D r p u w')
 case first =>
  have z:=Below.refl w4.heap.size w4
  have bS:w4.heap.size<=w4.drew.heap.size:=Nat.le_refl _
  go_region_held3 (fun w'=>Below w4.heap.size w4 w'/\∀b o,b<w4.heap.size→w'.cell? ⟨b,o,none⟩=w4.cell? ⟨b,o,none⟩)
   (first|with_reducible exact ⟨z,(bG z).1⟩|with_reducible exact ⟨z.drew,(bG z.drew).1⟩|(refine ⟨?_,(bG ?_).1⟩ <;> (repeat (first|with_reducible exact z|with_reducible exact z.drew|with_reducible refine aB ?_ _|with_reducible refine Below.drew ?_|with_reducible refine Below.setCell ?_ (by simp only;omega) _))))
   (first
    | (go_at_call 9;(with_reducible refine (qE W _).mono ?_);rintro e wk ⟨rfl,I⟩;have H:=aA (a:=w4) (by first|with_reducible exact z|with_reducible exact z.drew|with_reducible exact aB z _|with_reducible exact (aB z _).drew|with_reducible exact aB z.drew _|with_reducible exact (aB z.drew _).drew) I;have Y:=H.size;have j:=I.size;(try simp only [World.size_drew] at j);(try simp only [World.size_alloc] at j);(try have B:=Nat.lt_of_lt_of_le B j);(try have B:=Nat.lt_of_succ_le j);obtain ⟨hcc,ae⟩:=bG I;clear I;replace z:=H)
    | (go_at_call 20;(with_reducible refine (b8.out _ X0 X1 X2 X3 X4 X5 X6 (OX.out.below (by first|with_reducible exact z|with_reducible exact z.drew|with_reducible exact aB z _|with_reducible exact (aB z _).drew|with_reducible exact aB z.drew _|with_reducible exact (aB z.drew _).drew))).mono ?_);rintro e wk ⟨AL,nL,cL,rfl,hs⟩;have I:=hs.bel;have H:=aA (a:=w4) (by first|with_reducible exact z|with_reducible exact z.drew|with_reducible exact aB z _|with_reducible exact (aB z _).drew|with_reducible exact aB z.drew _|with_reducible exact (aB z.drew _).drew) I;have U:=Hd hs;clear hs;have Y:=H.size;have j:=I.size;(try simp only [World.size_drew] at j);(try simp only [World.size_alloc] at j);(try have B:=Nat.lt_of_lt_of_le B j);(try have B:=Nat.lt_of_succ_le j);obtain ⟨hcc,ae⟩:=bG I;clear I;replace z:=H))
  all_goals
   go_wp2_with fail
   go_meet
   first|((with_reducible refine DU z U.out ?_) <;> first|omega|(simp;omega))|((with_reducible refine oh.drew (DU z U.out ?_)) <;> first|omega|(simp;omega))
 clear x0 x1 x2 x3 lx y0 y1 y2 y3 y4 y5 y6 y7 ly z0 z1 z2 z3 z4 z5 z6 z7 lz
 obtain ⟨AG,nG,cG,rfl,rfl,hS⟩:=hcut
 have a1:Hid (aJ w2 wc [.cels (FF x) (Bt x X0 X1 X2 X3 X4 X5 X6 sn ln on bn cn pn rn),.blk gz #[.int .i64 x.net.inputs,.slice X0 sn sn,.slice X1 ln ln,.slice X2 on on,.slice X3 bn bn,.slice X4 cn cn,.slice X5 pn pn,.slice X6 rn rn] 46,.cel (dW D) (.slice AG nG cG)]):=Hd (HX.out.join hS)
 obtain ⟨w5,rfl⟩:∃y,y=wc:=⟨wc,rfl⟩
 clear hS HX OX
 have cp:Hid (D.length=nG):=(a1.out.rd 2 rfl).tlen
 go_wp2_with fail
 refine (kK AG AA nG nA cG cA D _ (a1.out.rd 2 rfl) (bs.out.below a1.out.bel) HZ.out).mono ?_
 rintro _ w6 ⟨rfl,b6⟩
 have aj:=Hd (a1.out.below b6)
 clear b6
 have Q:=aD (aA B2.out aj.out.bel) Z.out
 have J:=aD (aA B2.out aj.out.bel) V.out
 obtain ⟨x0,x1,x2,x3⟩:=cs4 Q
 obtain ⟨y0,y1,y2,y3,y4,y5,y6,y7⟩:=cs8 J
 have lx:=aC Q
 have ly:=aC J
 clear Q J
 obtain ⟨z0,z1,z2,z3,z4,z5,z6,z7,lz⟩:=mK ((aj.out.blk 1 rfl).1)
 have c0:(r != r)=false:=by cases r <;> rfl
 go_upto_region 10 with fail
 have bL:=Hd (fun (v:World) (hv:Below w6.heap.size w6 v)=>xy x SA LA OA BA CA PA RA sn sc ln lc on oc bn bc cn cc pn pc rn rc v (H1.out.below (aA aO.out (aA aj.out.bel hv))) hz)
 have OX:=Hd (pI aj.out 0 rfl)
 have z:=(Below.refl w6.heap.size w6).drew
 go_region_held3 (fun w'=>Below w6.heap.size w6 w'/\∀b o,b<w6.heap.size→w'.cell? ⟨b,o,none⟩=w6.cell? ⟨b,o,none⟩)
  (first|exact ⟨z,(bG z).1⟩)
  (first
   | (go_at_call 10;(with_reducible refine (bL.out _ z).mono ?_);rintro e v3 ⟨A0,A1,A2,A3,A4,A5,A6,rfl,o3⟩;have O6:=Hd (pI o3 0 rfl);replace z:=aA z o3.bel;clear o3)
   | (go_at_call 12;(with_reducible refine (FX x X0 X1 X2 X3 X4 X5 X6 A0 A1 A2 A3 A4 A5 A6 sn ln on bn cn pn rn _ (OX.out.below z) O6.out hz).mono ?_);rintro _ v7 ⟨rfl,b7⟩;replace z:=aA z b7;clear b7))
 clear x0 x1 x2 x3 lx y0 y1 y2 y3 y4 y5 y6 y7 ly z0 z1 z2 z3 z4 z5 z6 z7 lz bL OX O6
 have bR:=Hd (aj.out.below z)
 obtain ⟨w7,rfl⟩:∃y,y=v7:=⟨v7,rfl⟩
 clear z
 obtain ⟨z0,z1,z2,z3,z4,z5,z6,z7,lz⟩:=mK ((bR.out.blk 1 rfl).1)
 go_wp2_with fail
 refine (vJ _ x X0 X1 X2 X3 X4 X5 X6 sn sn ln ln on on bn bn cn cn pn pn rn rn w2 _ 0 1 _ bR.out rfl (by omega) (by have h:=co.out;omega)).mono ?_
 rintro _ w8 ⟨rfl,t8⟩
 have bQ:=Hd (t8.sub (List.sublist_cons_self _ _))
 clear z0 z1 z2 z3 z4 z5 z6 z7 lz
 have cP:=yu (by omega:(0:Int)<=1) (ak (bD x.net.seqs)) (ak (bM x.net.luts)) (ak (aH x.net.outs)) (ak (aa x.blocks)) (ak (ah x.conns)) (ak (aH x.place)) (ak (bH x.routes))
 generalize (1:Int)+(ak (bD x.net.seqs):Int)+(ak (bM x.net.luts):Int)+(ak (aH x.net.outs):Int)+(ak (aa x.blocks):Int)+(ak (ah x.conns):Int)+(ak (aH x.place):Int)+(ak (bH x.routes):Int)=K at *
 clear t8
 have bo:Hid (aJ w2 w8 [.blk gz #[.int .i64 x.net.inputs,.slice X0 sn sn,.slice X1 ln ln,.slice X2 on on,.slice X3 bn bn,.slice X4 cn cn,.slice X5 pn pn,.slice X6 rn rn] 46,.cel (dW D) (.slice AG nG cG)]):=bQ
 clear bQ
 have cR:¬K<0:=by omega
 go_wp2_with fail
 refine (kK AG AA nG nA cG cA D _ (bo.out.rd 1 rfl) (bs.out.below bo.out.bel) HZ.out).mono ?_
 rintro _ w9 ⟨rfl,b9⟩
 have cm:=Hd (bo.out.below b9)
 clear b9
 go_wp2_with fail
 refine (DV cm.out 1 rfl (by omega) (by omega) HZ.out).mono ?_
 rintro _ ct ⟨rfl,b2⟩
 have a4:Hid (aJ w2 ct [.blk gz #[.int .i64 x.net.inputs,.slice X0 sn sn,.slice X1 ln ln,.slice X2 on on,.slice X3 bn bn,.slice X4 cn cn,.slice X5 pn pn,.slice X6 rn rn] 46,.cel (dW (uO 1 D)) (.slice AG nG cG)]):=Hd b2
 clear b2
 have ck:tsN D nG<=1440:=by rw [←cp.out];exact bP.out.2
 obtain ⟨q1,aY⟩:∃q,tsN D nG=q:=⟨_,rfl⟩
 (try rw [aY])
 rw [aY] at ck
 have bU:=Hd aY
 clear aY
 have cW:¬((1:Int)+(q1:Int)<0):=by omega
 go_wp2_with fail
 refine (mM AG nG cG (uO 1 D) 1 _ (ts:=D) (a4.out.rd 1 rfl) rfl (by omega) (by omega) HZ.out).mono ?_
 rw [bU.out]
 rintro _ R ⟨rfl,bO⟩
 have ag:=Hd (a4.out.below bO)
 clear bO
 have Q:=aD (aA B2.out ag.out.bel) Z.out
 have J:=aD (aA B2.out ag.out.bel) V.out
 obtain ⟨x0,x1,x2,x3⟩:=cs4 Q
 obtain ⟨y0,y1,y2,y3,y4,y5,y6,y7⟩:=cs8 J
 have lx:=aC Q
 have ly:=aC J
 clear Q J
 have ci:=Hd (aA aO.out ag.out.bel)
 go_upto_region 24 with fail
 go_cut [14,15] (fun p u w'=>oh R D r p u w')
 case first =>
  have z:=Below.refl R.heap.size R
  have bS:R.heap.size<=R.drew.heap.size:=Nat.le_refl _
  go_region_held3 (fun w'=>Below R.heap.size R w'/\∀b o,b<R.heap.size→w'.cell? ⟨b,o,none⟩=R.cell? ⟨b,o,none⟩)
   (first|with_reducible exact ⟨z,(bG z).1⟩|with_reducible exact ⟨z.drew,(bG z.drew).1⟩|(refine ⟨?_,(bG ?_).1⟩ <;> (repeat (first|with_reducible exact z|with_reducible exact z.drew|with_reducible refine aB ?_ _|with_reducible refine Below.drew ?_|with_reducible refine Below.setCell ?_ (by simp only;omega) _))))
   (first
    | (go_at_call 9;(with_reducible refine (qE W _).mono ?_);rintro e wk ⟨rfl,I⟩;have H:=aA (a:=R) (by first|with_reducible exact z|with_reducible exact z.drew|with_reducible exact aB z _|with_reducible exact (aB z _).drew|with_reducible exact aB z.drew _|with_reducible exact (aB z.drew _).drew) I;(try replace G:=aA (by first|with_reducible exact G|with_reducible exact G.drew|with_reducible exact aB G _|with_reducible exact (aB G _).drew|with_reducible exact aB G.drew _|with_reducible exact (aB G.drew _).drew) I);have Y:=H.size;have j:=I.size;(try simp only [World.size_drew] at j);(try simp only [World.size_alloc] at j);(try have B:=Nat.lt_of_lt_of_le B j);(try have B:=Nat.lt_of_succ_le j);obtain ⟨hcc,ae⟩:=bG I;clear I;replace z:=H)
    | (go_at_call 10;(with_reducible refine (xy x SA LA OA BA CA PA RA sn sc ln lc on oc bn bc cn cc pn pc rn rc _ (H1.out.below (aA ci.out (by first|with_reducible exact z|with_reducible exact z.drew|with_reducible exact aB z _|with_reducible exact (aB z _).drew|with_reducible exact aB z.drew _|with_reducible exact (aB z.drew _).drew))) hz).mono ?_);rintro e wk ⟨A0,A1,A2,A3,A4,A5,A6,rfl,o3⟩;have I:=o3.bel;have H:=aA (a:=R) (by first|with_reducible exact z|with_reducible exact z.drew|with_reducible exact aB z _|with_reducible exact (aB z _).drew|with_reducible exact aB z.drew _|with_reducible exact (aB z.drew _).drew) I;have G:=Below.refl wk.heap.size wk;have O3:=Hd (pI o3 0 rfl);clear o3;have Y:=H.size;have j:=I.size;(try simp only [World.size_drew] at j);(try simp only [World.size_alloc] at j);(try have B:=Nat.lt_of_lt_of_le B j);(try have B:=Nat.lt_of_succ_le j);obtain ⟨hcc,ae⟩:=bG I;clear I;replace z:=H)
    | (go_at_call 20;(with_reducible refine (b8.out _ A0 A1 A2 A3 A4 A5 A6 (O3.out.below (by first|with_reducible exact G|with_reducible exact G.drew|with_reducible exact aB G _|with_reducible exact (aB G _).drew|with_reducible exact aB G.drew _|with_reducible exact (aB G.drew _).drew))).mono ?_);rintro e wk ⟨AL,nL,cL,rfl,hs⟩;have I:=hs.bel;have H:=aA (a:=R) (by first|with_reducible exact z|with_reducible exact z.drew|with_reducible exact aB z _|with_reducible exact (aB z _).drew|with_reducible exact aB z.drew _|with_reducible exact (aB z.drew _).drew) I;have U:=Hd hs;clear hs;have Y:=H.size;have j:=I.size;(try simp only [World.size_drew] at j);(try simp only [World.size_alloc] at j);(try have B:=Nat.lt_of_lt_of_le B j);(try have B:=Nat.lt_of_succ_le j);obtain ⟨hcc,ae⟩:=bG I;clear I;replace z:=H))
  all_goals
   go_wp2_with fail
   go_meet
   first|((with_reducible refine DU z U.out ?_) <;> first|omega|(simp;omega))|((with_reducible refine oh.drew (DU z U.out ?_)) <;> first|omega|(simp;omega))
 clear x0 x1 x2 x3 lx y0 y1 y2 y3 y4 y5 y6 y7 ly
 obtain ⟨AH,nH,cH,rfl,rfl,hS⟩:=hcut
 have aQ:Hid (aJ w2 wc [.blk gz #[.int .i64 x.net.inputs,.slice X0 sn sn,.slice X1 ln ln,.slice X2 on on,.slice X3 bn bn,.slice X4 cn cn,.slice X5 pn pn,.slice X6 rn rn] 46,.cel (dW (uO 1 D)) (.slice AG nG cG),.cel (dW D) (.slice AH nH cH)]):=Hd (ag.out.join hS)
 obtain ⟨cU,rfl⟩:∃y,y=wc:=⟨wc,rfl⟩
 clear hS
 go_wp2_with fail
 refine (kK AH AA nH nA cH cA D _ (aQ.out.rd 2 rfl) (bs.out.below aQ.out.bel) HZ.out).mono ?_
 rintro _ cX ⟨rfl,b4⟩
 have a8:=Hd (aQ.out.below b4)
 clear b4
 go_wp2_with fail
 refine (mM AG nG cG (uO 1 D) 1 _ (ts:=D) (a8.out.rd 1 rfl) rfl (by omega) (by omega) HZ.out).mono ?_
 rw [bU.out]
 rintro _ cY ⟨rfl,b5⟩
 have bE:=Hd (a8.out.below b5)
 clear b5
 go_wp2_with fail
 go_ret
 exact ⟨rfl,aA aO.out bE.out.bel⟩
end Go.Proofs.YtofihjoanjkdmaaGreat
