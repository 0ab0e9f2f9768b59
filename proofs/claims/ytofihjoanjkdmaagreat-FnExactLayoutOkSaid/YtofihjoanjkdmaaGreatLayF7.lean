/- Connections of blocks in the program (printed by mkcn.py). -/
import Derived.Test.YtofihjoanjkdmaaGreatLayF6
namespace Go.Proofs.YtofihjoanjkdmaaGreat
set_option maxHeartbeats 8000000
set_option maxRecDepth 100000
open Go.RowKit
theorem rQ:(Tryz.prog.info? 26).map (fun i=>(i.zero,i.size,i.bytes))=some (some (.slice none 0 0),1,24):=by kernel_rfl
theorem uz:(Tryz.prog.info? 100).map (fun i=>(i.zero,i.size,i.bytes))=some (some (.agg #[.int .i64 0,.int .i64 0]),2,16):=by kernel_rfl
theorem rR:(Tryz.prog.info? 158).map (fun i=>(i.zero,i.size,i.bytes))=some (some (.agg #[.int .i64 0,.int .i64 0,.int .i64 0,.slice none 0 0]),4,48):=by kernel_rfl
theorem nA {w:World} {x:Int} {cs:List Cel} {vs:List Value} {F:List Nat} (h:eT w cs vs F):eT w (.int x :: cs) (.int .i64 x :: vs) F:=dS.2 ⟨_,_,[],F,rfl,rfl,ed.2 ⟨rfl,rfl⟩,h⟩
theorem vB {w:World} {c:Cel} {v:Value} {F:List Nat} (h:eQ w c v F):eT w [c] [v] F:=dS.2 ⟨v,[],F,[],rfl,(List.append_nil _).symm,h,eu.2 ⟨rfl,rfl⟩⟩
theorem oM {W w w':World} {ps:List Pc} {A:Option Addr} {n c:Nat} {xs:List Int} (h:aM W w ps) (hb:Below w.heap.size w w') (ho:Own w.heap.size w' A n c xs):aM W w' (.cels [aJ xs] [.slice A n c] :: ps) :=
 h.cons hb (show eT w' [aJ xs] [.slice A n c] (blk A) from vB (gP.2 ⟨ho.more (Nat.zero_le _),rfl⟩)) (by cases A <;> simp [blk]) fun k hk=>by
  obtain ⟨a,rfl,rfl⟩:=lG.1 hk
  exact (ho.lt a rfl).1
theorem aM.consPin {W w:World} {ps:List Pc} (h:aM W w ps) (a b:Int):aM W w (.cels [.int a,.int b] [.int .i64 a,.int .i64 b] :: ps) :=
 h.cons (Below.refl _ _) (G:=[]) (show eT w _ _ [] from nA (nA (eu.2 ⟨rfl,rfl⟩))) (by simp) (by simp)
theorem aM.connCels {W w:World} {ps:List Pc} (h:aM W w ps) (i:Nat) {ss:List bQ} {A:Option Addr} {n c:Nat} (a b d:Int) (hi:ps[i]?=some (.cel (bM ss) (.slice A n c))):aM W w (ps.set i (.cels [.int a,.int b,.int d,bM ss] [.int .i64 a,.int .i64 b,.int .i64 d,.slice A n c])) :=
 h.same i hi fun _ h=>nA (nA (nA (vB h)))
def qa (pss:List (List Int)):Cel := .row 26 1 (pss.map aJ)
theorem rT (pss:List (List Int)) (ps:List Int):qa (pss++[ps]) = .row 26 1 (pss.map aJ++[aJ ps]):=by unfold qa;rw [List.map_append];rfl
theorem RdC.rowsR {w:World} {B n c k:Nat} {A:Option Addr} {pss:List (List Int)} (h:RdC w B (qa pss) (.slice A n c)) (hk:k<pss.length) :
  ∃b o S m p,A=some ⟨b,o,none⟩/\b<B/\w.cell? ⟨b,o+k,none⟩=some (.slice S m p)/\RdC w B (aJ (pss[k]?.getD [])) (.slice S m p):=by
 unfold qa at h
 obtain ⟨b,o,rfl,hb,hc⟩:=h.cell (by simp;omega)
 obtain ⟨c0,v,e1,m1,r1⟩:=hc k (by simpa using hk)
 rw [List.getElem?_map,List.getElem?_eq_getElem hk] at e1
 simp only [Option.map_some,Option.some.injEq] at e1
 subst e1
 obtain ⟨S,m,p,rfl⟩:=eO (e:=3) (s:=1) r1
 exact ⟨b,o,S,m,p,rfl,hb,m1,by rw [List.getElem?_eq_getElem hk];exact r1⟩
theorem lQ (l:ai) (SA LA OA:Option Addr) (sn sc ln lc on oc:Nat) (bs:List Blk) (BA:Option Addr) (bn bc:Nat) (w:World) (h:fI w l SA LA OA sn sc ln lc on oc) (hB:RdC w w.heap.size (bE bs) (.slice BA bn bc)) (hp:eY l bs) :
  Calls Tryz.prog 47 #[iD l SA LA OA sn sc ln lc on oc,.slice BA bn bc] w fun e w'=>∃A n c,e = .returned (.slice A n c)/\fQ w.heap.size w'.heap.size w' (bD (df l bs)) (.slice A n c)/\Below w.heap.size w w':=by
 have HB0:=Hd (aF (Below.refl w.heap.size w) (.cells (av l SA LA OA sn sc ln lc on oc) 41))
 have HXB:=Hd (aK w (.cells (av l SA LA OA sn sc ln lc on oc) 41))
 have hbl:=hB.blkN
 have HBL:=Hd hbl
 have HB:=Hd hB
 have HN:=Hd h
 have HP:=Hd hp
 have HF:=Hd hp.net
 have HFB:=Hd hp.fit
 have hb64:=hp.len
 rw [hbl] at hb64
 have HCO:Hid (∀i,i<=bn→(jW l bs i).length<=2 * i):=fun i hi=>nJ HFB.out (by rw [HBL.out];exact hi)
 have HBI:Hid (∀b∈bs,b.les.length<=1048576):=fun b hb=>by have:=lV (HFB.out b hb);omega
 clear hB hbl h hp
 obtain ⟨tiR,hiR,hzR,hsR,hbR⟩:=info_parts rQ
 obtain ⟨tiP,hiP,hzP,hsP,hbP⟩:=info_parts uz
 obtain ⟨tiC,hiC,hzC,hsC,hbC⟩:=info_parts rR
 have HIR:=Hd (And.intro hiR (And.intro hzR (And.intro hsR hbR)))
 have HIP:=Hd (And.intro hiP (And.intro hzP (And.intro hsP hbP)))
 have HIC:=Hd (And.intro hiC (And.intro hzC (And.intro hsC hbC)))
 clear hiR hzR hsR hbR hiP hzP hsP hbP hiC hzC hsC hbC
 go_enter Tryz.func47,Tryz.ntmps47
 go_upto_region 1 with fail
 generalize w.alloc (.cells (av l SA LA OA sn sc ln lc on oc) 41)=W0 at *
 have hx:=HXB.out
 have x0:=aA (k:=0) hx rfl
 have x1:=aA (k:=1) hx rfl
 have x2:=aA (k:=2) hx rfl
 have x3:=aA (k:=3) hx rfl
 have lx:=aC hx
 clear hx
 go_wp2_with fail
 refine (jf l SA LA OA sn sc ln lc on oc bs BA bn bc _ (HN.out.below HB0.out) (HB.out.below HB0.out) HBI.out).mono ?_
 rw [aa HP.out]
 rintro _ w1 ⟨rfl,b1⟩
 have HBW:=Hd (aB HB0.out b1)
 have HX9:=Hd (aD b1 HXB.out)
 clear b1
 clear x0 x1 x2 x3 lx
 obtain ⟨W9,rfl⟩:∃x,x=w1:=⟨w1,rfl⟩
 go_wp2_with fail
 go_loopw [5,24] (fun v i wr=>∃(k:Nat) (A:Option Addr) (c:Nat),k<=bn/\i = .int .i64 (k:Int)/\v = .slice A k c/\aM W9 wr [.cel (qa ((bs.take k).map (gV l))) (.slice A k c)]) (fun _ i _=>bn - (intOf i).toNat)
 case atStart=>exact ⟨0,none,0,by omega,rfl,rfl,(aM.refl W9).pushNil 26 1⟩
 case round =>
  obtain ⟨k,A1,c1',hk,rfl,rfl,hs⟩:=hrel
  have HS:=Hd hs
  clear hs
  by_cases hlt:k<bn
  ·have hdk:decide ((k:Int)<(bn:Int))=true:=by simp;omega
   have hkl:k<bs.length:=by rw [HBL.out];exact hlt
   obtain ⟨bb,ob,EA,en,ec,hBA,hbb,c0,c1,c2,r2⟩:=HB.out.blk (k:=k) hkl
   have hBB:=aB HBW.out HS.out.bel
   have lbb:=aL hBB hbb
   rw [←hBB.cell (p:=⟨bb,ob+k * 3,none⟩) hbb] at c0
   rw [←hBB.cell (p:=⟨bb,ob+k * 3+1,none⟩) hbb] at c1
   rw [←hBB.cell (p:=⟨bb,ob+k * 3+2,none⟩) hbb] at c2
   have hft:=HFB.out _ (List.getElem_mem hkl)
   rw [show bs[k]=bs[k]?.getD Blk.zero by rw [List.getElem?_eq_getElem hkl];rfl] at hft
   have HBA:=Hd hBA
   have HTK:=Hd (show (bs.take (k+1)).map (gV l)=(bs.take k).map (gV l)++[gV l (bs[k]?.getD Blk.zero)] from by rw [kP hkl,List.map_append];rfl)
   clear hkl hBB hBA
   generalize bs[k]?.getD Blk.zero=b at *
   obtain ⟨kd,it,es⟩:=b
   simp only at c0 c1
   have HE:=Hd (show RdC w w.heap.size (dF es) (.slice EA en ec) from r2)
   have hel:es.length=en:=HE.out.esN
   have hen:en<=2:=by rw [←hel];exact lV hft
   have HKN:=Hd hft.1
   obtain rfl:=HBA.out
   have i0:(0:Int)<=(k:Int):=by omega
   have i1:(k:Int)<(bn:Int):=by omega
   have HA:=Hd (HS.out.alloc (.cells #[.int .i64 kd,.int .i64 it,.slice EA en ec] 89))
   have HYA:=Hd (aK wr (.cells #[.int .i64 kd,.int .i64 it,.slice EA en ec] 89))
   have y0:=aA (k:=0) HYA.out rfl
   have y1:=aA (k:=1) HYA.out rfl
   have y2:=aA (k:=2) HYA.out rfl
   have ly:=aC HYA.out
   clear r2 hel hft
   have hx:=aD HA.out.bel HX9.out
   have x0:=aA (k:=0) hx rfl
   have x1:=aA (k:=1) hx rfl
   have x2:=aA (k:=2) hx rfl
   have x3:=aA (k:=3) hx rfl
   have lx:=aC hx
   clear hx
   go_wp2_with fail
   refine (mX l SA LA OA sn sc ln lc on oc kd it es EA en ec _ (HN.out.below (aB HBW.out HA.out.bel)) HF.out (HE.out.below (aB HBW.out HA.out.bel)) HKN.out (by omega)).mono ?_
   rintro _ w4 ⟨PA,pn,pc,rfl,op,b4⟩
   have HS4:=Hd (oM HA.out b4 op)
   clear x0 x1 x2 x3 lx y0 y1 y2 ly c0 c1 c2 b4 op
   go_wp2_with (at_builtin;refine gq rfl _ _ 50 26 rfl tiR _ 1 24 Tryz.underlying50 HIR.out.1 HIR.out.2.1 HIR.out.2.2.1 HIR.out.2.2.2 rfl (by decide) (by decide) _ (HS4.out.alloc (.cells #[.slice PA pn pc] 26)) 1 0 (by decide) k c1' _ A1 (((bs.take k).map (gV l)).map aJ) _ #[.slice PA pn pc] _ rfl rfl rfl rfl (aK _ _) rfl (by omega) ?_;intro g9 cap w9 S9 hz9;have HS9:=Hd S9.tail;clear S9 hz9)
   go_roundw
   case rel=>exact ⟨k+1,_,_,by omega,by go_num,rfl,by rw [HTK.out,rT];exact HS9.out⟩
   case measure=>simp [intOf];omega
  ·have hkn:k=bn:=by omega
   have hdk:decide ((k:Int)<(bn:Int))=false:=by simp;omega
   have HTK:Hid (bs.take k=bs):=by show _=_;rw [hkn];exact List.take_of_length_le (by rw [HBL.out];exact Nat.le_refl _)
   have HSP:=Hd HS.out
   have hpl:=HSP.out
   rw [HTK.out] at hpl
   obtain ⟨PS,hPS⟩:∃PS,bs.map (gV l)=PS:=⟨_,rfl⟩
   rw [hPS] at hpl
   have HPR:=Hd (hpl.rd 0 rfl)
   have HBV:=Hd (aB HBW.out hpl.bel)
   have HX8:=Hd (aD hpl.bel HX9.out)
   have HPS:=Hd hPS
   have HPL:Hid (PS.length=bn):=by show _=_;rw [←hPS,List.length_map,HBL.out]
   have HP5:Hid (∀ps∈PS,ps.length<=5):=fun ps hp=>by
    rw [←hPS] at hp
    obtain ⟨b,hb,rfl⟩:=List.mem_map.1 hp
    exact uC HF.out (HFB.out b hb)
   subst hkn
   clear HS HSP hpl hPS HTK
   obtain ⟨W8,rfl⟩:∃y,y=wr:=⟨wr,rfl⟩
   obtain ⟨PA,rfl⟩:∃y,y=A1:=⟨A1,rfl⟩
   obtain ⟨pc,rfl⟩:∃y,y=c1':=⟨c1',rfl⟩
   obtain ⟨bn,rfl⟩:∃y,y=k:=⟨k,rfl⟩
   go_wp2_with fail
   go_loopw [8,37] (fun v i wr=>∃(k:Nat) (A:Option Addr) (n c:Nat),k<=bn/\i = .int .i64 (k:Int)/\v = .slice A n c/\n<=2 * k/\aM W8 wr [.cel (bD (jW l bs k)) (.slice A n c)]) (fun _ i _=>bn - (intOf i).toNat)
   case atStart=>exact ⟨0,none,0,0,by omega,rfl,rfl,by omega,(aM.refl W8).pushNil 158 4⟩
   case round =>
    obtain ⟨k,A1,n1,c1',hk,rfl,rfl,hn1,hs⟩:=hrel
    have HS:=Hd hs
    clear hs
    by_cases hlt:k<bn
    ·have hdk:decide ((k:Int)<(bn:Int))=true:=by simp;omega
     have hkl:k<bs.length:=by rw [HBL.out];exact hlt
     obtain ⟨bb,ob,EA,en,ec,hBA,hbb,c0,c1,c2,r2⟩:=HB.out.blk (k:=k) hkl
     have hBB:=aB HBV.out HS.out.bel
     have lbb:=aL hBB hbb
     rw [←hBB.cell (p:=⟨bb,ob+k * 3,none⟩) hbb] at c0
     rw [←hBB.cell (p:=⟨bb,ob+k * 3+1,none⟩) hbb] at c1
     rw [←hBB.cell (p:=⟨bb,ob+k * 3+2,none⟩) hbb] at c2
     have hft:=HFB.out _ (List.getElem_mem hkl)
     rw [show bs[k]=bs[k]?.getD Blk.zero by rw [List.getElem?_eq_getElem hkl];rfl] at hft
     have HBA:=Hd hBA
     have hol2:=qA hft
     have HTK:=Hd (mi l bs k)
     rw [HPS.out] at HTK
     clear hkl hBB hBA
     generalize bs[k]?.getD Blk.zero=b at *
     obtain ⟨kd,it,es⟩:=b
     simp only at c0 c1
     have HE:=Hd (show RdC w w.heap.size (dF es) (.slice EA en ec) from r2)
     have hel:es.length=en:=HE.out.esN
     have hen:en<=2:=by rw [←hel];exact lV hft
     have HKN:=Hd hft.1
     obtain rfl:=HBA.out
     have i0:(0:Int)<=(k:Int):=by omega
     have i1:(k:Int)<(bn:Int):=by omega
     have HA:=Hd (HS.out.alloc (.cells #[.int .i64 kd,.int .i64 it,.slice EA en ec] 89))
     have HYA:=Hd (aK wr (.cells #[.int .i64 kd,.int .i64 it,.slice EA en ec] 89))
     have y0:=aA (k:=0) HYA.out rfl
     have y1:=aA (k:=1) HYA.out rfl
     have y2:=aA (k:=2) HYA.out rfl
     have ly:=aC HYA.out
     clear r2 hel hft
     have hx:=aD HA.out.bel HX8.out
     have x0:=aA (k:=0) hx rfl
     have x1:=aA (k:=1) hx rfl
     have x2:=aA (k:=2) hx rfl
     have x3:=aA (k:=3) hx rfl
     have lx:=aC hx
     clear hx
     go_wp2_with fail
     refine (tN l SA LA OA sn sc ln lc on oc kd it es EA en ec _ (HN.out.below (aB HBV.out HA.out.bel)) HF.out (HE.out.below (aB HBV.out HA.out.bel)) HKN.out (by omega)).mono ?_
     rintro _ w4 ⟨UA,un,uc,rfl,ou,b4⟩
     have HS4:=Hd (HA.out.pushOwn b4 ou)
     have hun:un<=2:=by rw [←ou.len];exact hol2
     clear x0 x1 x2 x3 lx y0 y1 y2 ly c0 c1 c2 b4 ou hol2
     generalize iw l ⟨kd,it,es⟩=us at *
     generalize jW l bs k=CT at *
     have HUL:=Hd (HS4.out.ints 1 rfl).1
     rw [HUL.out] at HTK
     go_wp2_with fail
     go_loopw [8,46] (fun v i wr=>∃(p:Nat) (A:Option Addr) (n c:Nat),p<=un/\i = .int .i64 (p:Int)/\v = .slice A n c/\n<=2 * k+p/\aM W8 wr [.cel (bD (CT++fu PS k us p)) (.slice A n c),.cel (aJ us) (.slice UA un uc)]) (fun _ i _=>un - (intOf i).toNat)
     case atStart=>exact ⟨0,_,_,_,by omega,rfl,rfl,by omega,by simpa [fu] using HS4.out⟩
     case round =>
      obtain ⟨p,A2,n2,c2',hp,rfl,rfl,hn2,hs⟩:=hrel
      have HS5:=Hd hs
      clear hs
      by_cases hltp:p<un
      ·have hdp:decide ((p:Int)<(un:Int))=true:=by simp;omega
       obtain ⟨bu,ou,hUA,lbu,hcu⟩:=(HS5.out.ints 1 rfl).2 (by omega)
       have HUA:=Hd hUA
       have cu:=hcu p hltp
       have HTP:=Hd (nW PS k us p)
       obtain rfl:=HUA.out
       clear hcu hUA
       generalize us[p]?.getD 0=N at *
       have i2:(0:Int)<=(p:Int):=by omega
       have i3:(p:Int)<(un:Int):=by omega
       have HA5:Hid (aM W8 (wr.alloc (.cells #[.int .i64 N,.int .i64 (k:Int),.int .i64 (p:Int),.slice none 0 0] 158)) [.cel (bD (CT++fu PS k us p)) (.slice A2 n2 c2'),.cel (aJ us) (.slice (some ⟨bu,ou,none⟩) un uc),.blk wr.heap.size #[.int .i64 N,.int .i64 (k:Int),.int .i64 (p:Int),.slice none 0 0] 158,.cel (bM (fJ PS N 0)) (.slice none 0 0)]):=((HS5.out.pushBlk _ _).pushNil 100 2)
       obtain ⟨gc,hgc⟩:∃g,wr.heap.size=g:=⟨_,rfl⟩
       go_upto_region 17 with fail
       rw [hgc] at HA5
       (try rw [hgc])
       have HGC:=Hd hgc
       clear hgc cu lbu
       generalize wr.alloc (.cells #[.int .i64 N,.int .i64 (k:Int),.int .i64 (p:Int),.slice none 0 0] 158)=W6 at *
       go_wp2_with fail
       go_loopw [58] (fun i wr=>∃(j:Nat) (SK:Option Addr) (m c:Nat),j<=bn/\i = .int .i64 (j:Int)/\m<=5 * j/\aM W8 wr [.cel (bD (CT++fu PS k us p)) (.slice A2 n2 c2'),.cel (aJ us) (.slice (some ⟨bu,ou,none⟩) un uc),.blk gc #[.int .i64 N,.int .i64 (k:Int),.int .i64 (p:Int),.slice SK m c] 158,.cel (bM (fJ PS N j)) (.slice SK m c)]) (fun i _=>bn - (intOf i).toNat)
       case atStart=>exact ⟨0,none,0,0,by omega,rfl,by omega,HA5.out⟩
       case round =>
        obtain ⟨j,SK,m,mc,hj,rfl,hm,hs⟩:=hrel
        have HS6:=Hd hs
        clear hs
        by_cases hltj:j<bn
        ·have hdj:decide ((j:Int)<(bn:Int))=true:=by simp;omega
         have hjl:j<PS.length:=by rw [HPL.out];exact hltj
         obtain ⟨bp,op,PT,pm,pp,hPA,hbp,cp,rp⟩:=HPR.out.rowsR (k:=j) hjl
         have HPA:=Hd hPA
         rw [←HS6.out.bel.cell (p:=⟨bp,op+j,none⟩) hbp] at cp
         have lbp:=aL HS6.out.bel hbp
         have h5:=HP5.out _ (List.getElem_mem hjl)
         rw [show PS[j]=PS[j]?.getD [] by rw [List.getElem?_eq_getElem hjl];rfl] at h5
         have HRP:=Hd rp.ints
         have hpm:pm<=5:=by rw [←rp.ints.1];exact h5
         have HTJ:=Hd (oD PS N j)
         rw [HRP.out.1] at HTJ
         clear hjl h5 rp hPA
         obtain rfl:=HPA.out
         generalize PS[j]?.getD []=qs at *
         generalize fJ PS N j=SJ at *
         have i4:(0:Int)<=(j:Int):=by omega
         have i5:(j:Int)<(bn:Int):=by omega
         obtain ⟨W5,rfl⟩:∃y,y=wr:=⟨wr,rfl⟩
         go_wp2_with fail
         clear cp lbp
         go_loopw [65] (fun i wr=>∃(q:Nat) (SK:Option Addr) (m c:Nat),q<=pm/\i = .int .i64 (q:Int)/\m<=5 * j+q/\aM W8 wr [.cel (bD (CT++fu PS k us p)) (.slice A2 n2 c2'),.cel (aJ us) (.slice (some ⟨bu,ou,none⟩) un uc),.blk gc #[.int .i64 N,.int .i64 (k:Int),.int .i64 (p:Int),.slice SK m c] 158,.cel (bM (SJ++kY N j qs q)) (.slice SK m c)]) (fun i _=>pm - (intOf i).toNat)
         case atStart=>exact ⟨0,_,_,_,by omega,rfl,by omega,by simpa [kY] using HS6.out⟩
         case round =>
          obtain ⟨q,SK,m,mc,hq,rfl,hm,hs⟩:=hrel
          have HS4':=Hd hs
          clear hs
          by_cases hltq:q<pm
          ·have hdq:decide ((q:Int)<(pm:Int))=true:=by simp;omega
           obtain ⟨bq,oq,hPT,hbq,hcq⟩:=HRP.out.2 (by omega)
           have HPT:=Hd hPT
           have cq:=(HS4'.out.bel.cell (p:=⟨bq,oq+q,none⟩) hbq).trans (hcq q hltq)
           have lbq:=aL HS4'.out.bel hbq
           have HTQ:=Hd (qH N j qs q)
           clear hcq hPT
           obtain rfl:=HPT.out
           generalize qs[q]?.getD 0=y at *
           generalize kY N j qs q=SQ at *
           have i6:(0:Int)<=(q:Int):=by omega
           have i7:(q:Int)<(pm:Int):=by omega
           by_cases hy:y=N
           ·have dy:(y==N)=true:=by simp [hy]
            have HC:Hid (SJ++kY N j qs (q+1)=SJ++SQ++[⟨(j:Int),(q:Int)⟩]):=by show _=_;rw [HTQ.out,if_pos hy,List.append_assoc]
            have hk6:=(HS4'.out.blk 2 rfl).1
            have z3:=aA (k:=3) hk6 rfl
            have lz:=aC hk6
            have HSA:=Hd ((HS4'.out.consPin (j:Int) (q:Int)).alloc (.cells #[.int .i64 (j:Int),.int .i64 (q:Int)] 100))
            have hm3:m<=1000:=by omega
            clear hk6 hy
            go_wp2_with (at_builtin;refine gq rfl _ _ 156 100 rfl tiP _ 2 16 Tryz.underlying156 HIP.out.1 HIP.out.2.1 HIP.out.2.2.1 HIP.out.2.2.2 rfl (by decide) (by decide) _ (HSA.out) 4 0 (by decide) m mc _ SK ((SJ++SQ).flatMap bQ.cells) _ #[.int .i64 (j:Int),.int .i64 (q:Int)] _ rfl rfl rfl rfl (aK _ _) rfl (by omega) ?_;intro g9 cap w9 S9 hz9;have HK9:=Hd (S9.tail.blk 2 rfl).1;have l9:=aA (k:=3) HK9.out rfl;have f9:=aj HK9.out 3;have q9:=aC HK9.out;have HSQ:=Hd (S9.tail.put 2 rfl 3 (.slice (some ⟨g9,0,none⟩) (m+1) cap));clear S9 hz9)
            go_roundw
            case rel=>exact ⟨q+1,some ⟨g9,0,none⟩,m+1,cap,by omega,by go_num,by omega,by rw [HC.out];unfold bM;rw [rU];exact HSQ.out⟩
            case measure=>simp [intOf];omega
           ·have dy:(y==N)=false:=by simp [hy]
            have HC:Hid (SJ++kY N j qs (q+1)=SJ++SQ):=by show _=_;rw [HTQ.out,if_neg hy,List.append_nil]
            clear hy
            go_wp2_with fail
            go_roundw
            case rel=>exact ⟨q+1,SK,m,mc,by omega,by go_num,by omega,by rw [HC.out];exact HS4'.out⟩
            case measure=>simp [intOf];omega
          ·have hqn:q=pm:=by omega
           have hdq:decide ((q:Int)<(pm:Int))=false:=by simp;omega
           rw [hqn] at HS4' hm
           go_wp2_with fail
           go_roundw
           case rel=>exact ⟨j+1,SK,m,mc,by omega,by go_num,by omega,by rw [HTJ.out];exact HS4'.out⟩
           case measure=>simp [intOf];omega
        ·have hjn:j=bn:=by omega
         have hdj:decide ((j:Int)<(bn:Int))=false:=by simp;omega
         have HTJ:Hid (fJ PS N j=fJ PS N PS.length):=by show _=_;rw [HPL.out,hjn]
         rw [HTJ.out] at HS6
         have hk6:=(HS6.out.blk 2 rfl).1
         have z0:=aA (k:=0) hk6 rfl
         have z1:=aA (k:=1) hk6 rfl
         have z2:=aA (k:=2) hk6 rfl
         have z3:=aA (k:=3) hk6 rfl
         have lz:=aC hk6
         have hml:(fJ PS N PS.length).length=m:=(HS6.out.rd 3 rfl).pinN
         clear hk6
         by_cases hm0:m=0
         ·have dm:decide ((0:Int)<(m:Int))=false:=decide_eq_false (by omega)
          have dm':decide (0<m)=false:=decide_eq_false (by omega)
          have HC:Hid (fu PS k us (p+1)=fu PS k us p):=by show _=_;rw [HTP.out];unfold qG;rw [if_pos (by omega),List.append_nil]
          have HS8:=Hd (HS6.out.sub (qs:=[.cel (bD (CT++fu PS k us p)) (.slice A2 n2 c2'),.cel (aJ us) (.slice (some ⟨bu,ou,none⟩) un uc)]) (List.Sublist.cons_cons _ (List.Sublist.cons_cons _ (List.nil_sublist _))))
          go_wp2_with fail
          go_roundw
          case rel=>exact ⟨p+1,_,_,_,by omega,by go_num,rfl,by omega,by rw [HC.out];exact HS8.out⟩
          case measure=>simp [intOf];omega
         ·have dm:decide ((0:Int)<(m:Int))=true:=decide_eq_true (by omega)
          have dm':decide (0<m)=true:=decide_eq_true (by omega)
          have HC:Hid (CT++fu PS k us (p+1)=CT++fu PS k us p++[⟨N,⟨(k:Int),(p:Int)⟩,fJ PS N PS.length⟩]):=by show _=_;rw [HTP.out];unfold qG;rw [if_neg (by omega),List.append_assoc]
          have HS8:=Hd ((HS6.out.connCels 3 N (k:Int) (p:Int) rfl).alloc (.cells #[.int .i64 N,.int .i64 (k:Int),.int .i64 (p:Int),.slice SK m mc] 158))
          have hn3:n2<=1000:=by omega
          clear hml
          go_wp2_with (at_builtin;refine gq rfl _ _ 43 158 rfl tiC _ 4 48 Tryz.underlying43 HIC.out.1 HIC.out.2.1 HIC.out.2.2.1 HIC.out.2.2.2 rfl (by decide) (by decide) _ (HS8.out) 0 3 (by decide) n2 c2' _ A2 ((CT++fu PS k us p).flatMap Cn.cells) _ #[.int .i64 N,.int .i64 (k:Int),.int .i64 (p:Int),.slice SK m mc] _ rfl rfl rfl rfl (aK _ _) rfl (by omega) ?_;intro g9 cap w9 S9 hz9;have HS9:=Hd (S9.sub (qs:=[_,_]) (List.Sublist.cons_cons _ (List.Sublist.cons_cons _ (List.nil_sublist _))));clear S9 hz9)
          go_roundw
          case rel=>exact ⟨p+1,_,_,_,by omega,by go_num,rfl,by omega,by rw [HC.out];unfold bD;rw [vE];exact HS9.out⟩
          case measure=>simp [intOf];omega
      ·have hpn:p=un:=by omega
       have hdp:decide ((p:Int)<(un:Int))=false:=by simp;omega
       rw [hpn] at HS5 hn2
       have HS8:=Hd (HS5.out.sub (qs:=[.cel (bD (CT++fu PS k us un)) (.slice A2 n2 c2')]) (List.Sublist.cons_cons _ (List.nil_sublist _)))
       go_wp2_with fail
       go_roundw
       case rel=>exact ⟨k+1,_,_,_,by omega,by go_num,rfl,by omega,by rw [HTK.out];exact HS8.out⟩
       case measure=>simp [intOf];omega
    ·have hkn:k=bn:=by omega
     have hdk:decide ((k:Int)<(bn:Int))=false:=by simp;omega
     have HTK:Hid (jW l bs k=df l bs):=by show _=_;rw [hkn];unfold df;rw [HBL.out]
     rw [HTK.out] at HS
     go_wp2_with fail
     go_ret
     exact ⟨_,_,_,rfl,(HS.out.tree 0 rfl).widen HBV.out.size (Nat.le_refl _),aB HBV.out HS.out.bel⟩
end Go.Proofs.YtofihjoanjkdmaaGreat
