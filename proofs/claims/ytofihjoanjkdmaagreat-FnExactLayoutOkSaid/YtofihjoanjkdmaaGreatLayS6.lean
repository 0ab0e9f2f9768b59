/- Connections of blocks in the reference (printed by mkcns.py). -/
import Derived.Test.YtofihjoanjkdmaaGreatLayF7
import Derived.Test.YtofihjoanjkdmaaGreatLayS5
namespace Go.Proofs.YtofihjoanjkdmaaGreat
set_option maxHeartbeats 8000000
set_option maxRecDepth 100000
open Go.RowKit
theorem kE (l:ai) (SA LA OA:Option Addr) (sn sc ln lc on oc:Nat) (bs:List Blk) (BA:Option Addr) (bn bc:Nat) (w:World) (h:fI w l SA LA OA sn sc ln lc on oc) (hB:RdC w w.heap.size (bE bs) (.slice BA bn bc)) (hp:eY l bs) :
  Calls Tryz.prog 37 #[iD l SA LA OA sn sc ln lc on oc,.slice BA bn bc] w fun e w'=>∃A n c,e = .returned (.slice A n c)/\fQ w.heap.size w'.heap.size w' (bD (df l bs)) (.slice A n c)/\Below w.heap.size w w':=by
 have HB0:=Hd (aF (Below.refl w.heap.size w) (.cells (av l SA LA OA sn sc ln lc on oc) 41))
 have HXB:=Hd (aK w (.cells (av l SA LA OA sn sc ln lc on oc) 41))
 have hbl:=hB.blkN
 have HBL:=Hd hbl
 have HB:=Hd hB
 have HN:=Hd h
 have HP:=Hd hp
 have HF:=Hd hp.net
 have HFB:=Hd hp.fit
 have hb64:=hp.len
 rw [hbl] at hb64
 have HCO:Hid (∀i,i<=bn→(jW l bs i).length<=2 * i):=fun i hi=>nJ HFB.out (by rw [HBL.out];exact hi)
 have HBI:Hid (∀b∈bs,b.les.length<=1048576):=fun b hb=>by have:=lV (HFB.out b hb);omega
 clear hB hbl h hp
 obtain ⟨tiR,hiR,hzR,hsR,hbR⟩:=info_parts rQ
 obtain ⟨tiP,hiP,hzP,hsP,hbP⟩:=info_parts uz
 obtain ⟨tiC,hiC,hzC,hsC,hbC⟩:=info_parts rR
 have HIR:=Hd (And.intro hiR (And.intro hzR (And.intro hsR hbR)))
 have HIP:=Hd (And.intro hiP (And.intro hzP (And.intro hsP hbP)))
 have HIC:=Hd (And.intro hiC (And.intro hzC (And.intro hsC hbC)))
 clear hiR hzR hsR hbR hiP hzP hsP hbP hiC hzC hsC hbC
 go_enter Tryz.func37,Tryz.ntmps37
 go_upto_region 1 with fail
 generalize w.alloc (.cells (av l SA LA OA sn sc ln lc on oc) 41)=W0 at *
 have HNW:=Hd ((aM.refl W0).pushNew 158 4)
 have x0:=aA (k:=0) HXB.out rfl
 have x1:=aA (k:=1) HXB.out rfl
 have x2:=aA (k:=2) HXB.out rfl
 have x3:=aA (k:=3) HXB.out rfl
 have lx:=aC HXB.out
 go_wp2_with fail
 refine (jO l SA LA OA sn sc ln lc on oc bs BA bn bc _ (HN.out.below (aB HB0.out HNW.out.bel)) (HB.out.below (aB HB0.out HNW.out.bel)) HBI.out).mono ?_
 rw [aa HP.out]
 rintro _ w1 ⟨rfl,b1⟩
 have HS1:=Hd (HNW.out.below b1)
 have HS2:=Hd (HS1.out.pushNew 26 1)
 clear b1 x0 x1 x2 x3 lx
 go_wp2_with fail
 go_loopw [6,7] (fun v i wr=>∃(k:Nat) (A:Option Addr) (c:Nat),k<=bn/\i = .int .i64 (k:Int)/\v = .slice A k c/\aM W0 wr [.cel (bD []) (.slice (some ⟨W0.heap.size,0,none⟩) 0 0),.cel (qa ((bs.take k).map (gV l))) (.slice A k c)]) (fun _ i _=>bn - (intOf i).toNat)
 case atStart=>exact ⟨0,_,_,by omega,rfl,rfl,HS2.out⟩
 case round =>
  obtain ⟨k,A1,cA,hk,rfl,rfl,hs⟩:=hrel
  have HS:=Hd hs
  clear hs
  by_cases hlt:k<bn
  ·have hdk:decide ((k:Int)<(bn:Int))=true:=by simp;omega
   have hkl:k<bs.length:=by rw [HBL.out];exact hlt
   obtain ⟨bb,ob,EA,en,ec,hBA,hbb,c0,c1,c2,r2⟩:=HB.out.blk (k:=k) hkl
   have HBA:=Hd hBA
   have hft:=HFB.out _ (List.getElem_mem hkl)
   rw [show bs[k]=bs[k]?.getD Blk.zero by rw [List.getElem?_eq_getElem hkl];rfl] at hft
   have HTK:=Hd (show (bs.take (k+1)).map (gV l)=(bs.take k).map (gV l)++[gV l (bs[k]?.getD Blk.zero)] from by rw [kP hkl,List.map_append];rfl)
   clear hkl hBA
   generalize bs[k]?.getD Blk.zero=b at *
   obtain ⟨kd,it,es⟩:=b
   simp only at c0 c1
   have HE:=Hd (show RdC w w.heap.size (dF es) (.slice EA en ec) from r2)
   have hel:es.length=en:=HE.out.esN
   have hen:en<=2:=by rw [←hel];exact lV hft
   have HKN:=Hd hft.1
   obtain rfl:=HBA.out
   have i0:(0:Int)<=(k:Int):=by omega
   have i1:(k:Int)<(bn:Int):=by omega
   have HKEEP:Hid (∀w',Below W0.heap.size W0 w'→(w'.cell? ⟨w.heap.size,0,none⟩=some (.int .i64 l.inputs)/\w'.cell? ⟨w.heap.size,1,none⟩=some (.slice SA sn sc)/\w'.cell? ⟨w.heap.size,2,none⟩=some (.slice LA ln lc)/\w'.cell? ⟨w.heap.size,3,none⟩=some (.slice OA on oc)/\w'.cell? ⟨bb,ob+k * 3,none⟩=some (.int .i64 kd)/\w'.cell? ⟨bb,ob+k * 3+1,none⟩=some (.int .i64 it)/\w'.cell? ⟨bb,ob+k * 3+2,none⟩=some (.slice EA en ec))):=fun v hv=>⟨aA (k:=0) (aD hv HXB.out) rfl,aA (k:=1) (aD hv HXB.out) rfl,aA (k:=2) (aD hv HXB.out) rfl,aA (k:=3) (aD hv HXB.out) rfl,((aB HB0.out hv).cell (p:=⟨bb,ob+k * 3,none⟩) hbb).trans c0,((aB HB0.out hv).cell (p:=⟨bb,ob+k * 3+1,none⟩) hbb).trans c1,((aB HB0.out hv).cell (p:=⟨bb,ob+k * 3+2,none⟩) hbb).trans c2⟩
   clear r2 hel hft c0 c1 c2
   obtain ⟨x0,x1,x2,x3,c0,c1,c2⟩:=HKEEP.out _ HS.out.bel
   have lx:=aC (aD HS.out.bel HXB.out)
   have lbb:=aL (aB HB0.out HS.out.bel) hbb
   have hS:=Hd HS.out.drew
   have hD:=hS.out.bel
   have HCP:=Hd (fun (v:World) (hv:Below W0.heap.size W0 v)=>qy l SA LA OA sn sc ln lc on oc kd it es EA en ec v (HN.out.below (aB HB0.out hv)) HF.out (HE.out.below (aB HB0.out hv)) HKN.out (by omega))
   go_upto_region 8 with fail
   go_region_held3 (fun w'=>w'.cell? ⟨w.heap.size,0,none⟩=some (.int .i64 l.inputs)/\w'.cell? ⟨w.heap.size,1,none⟩=some (.slice SA sn sc)/\w'.cell? ⟨w.heap.size,2,none⟩=some (.slice LA ln lc)/\w'.cell? ⟨w.heap.size,3,none⟩=some (.slice OA on oc)/\w'.cell? ⟨bb,ob+k * 3,none⟩=some (.int .i64 kd)/\w'.cell? ⟨bb,ob+k * 3+1,none⟩=some (.int .i64 it)/\w'.cell? ⟨bb,ob+k * 3+2,none⟩=some (.slice EA en ec))
    (first|with_reducible exact HKEEP.out _ hD|with_reducible exact HKEEP.out _ (aF hD _))
    ((first
     | (go_at_call 111;(with_reducible refine (HCP.out _ hD).mono ?_);rintro e5 w5 ⟨PA,pn,pc,rfl,op,b5⟩;replace hD:=aB hD b5;have hS5:=Hd (oM hS.out b5 op);clear b5 op)
     | (refine q8 rfl _ _ 50 26 (by rfl) tiR _ 1 24 Tryz.underlying50 HIR.out.1 HIR.out.2.1 HIR.out.2.2.1 HIR.out.2.2.2 rfl (by decide) (by decide) _ (hS5.out.alloc (.cells #[.slice PA pn pc] 26)) 2 0 (by decide) k cA _ A1 (((bs.take k).map (gV l)).map aJ) _ #[.slice PA pn pc] _ rfl rfl (by rfl) (by rfl) (aK _ _) rfl (by omega) ?_;intro g9 cap w9 S9 hz9;have hS9:=Hd S9.tail;replace hD:=S9.tail.bel;clear S9 hz9)))
   go_wp2_with fail
   go_roundw
   case rel=>exact ⟨k+1,_,_,by omega,by go_num,rfl,by rw [HTK.out,rT];exact hS9.out⟩
   case measure=>simp [intOf];omega
  ·have hkn:k=bn:=by omega
   have hdk:decide ((k:Int)<(bn:Int))=false:=by simp;omega
   have HTK:Hid (bs.take k=bs):=by show _=_;rw [hkn];exact List.take_of_length_le (by rw [HBL.out];exact Nat.le_refl _)
   rw [HTK.out] at HS
   obtain ⟨PS,hPS⟩:∃PS,bs.map (gV l)=PS:=⟨_,rfl⟩
   rw [hPS] at HS
   have HPS:=Hd hPS
   have HPL:Hid (PS.length=bn):=by show _=_;rw [←hPS,List.length_map,HBL.out]
   have HP5:Hid (∀ps∈PS,ps.length<=5):=fun ps hp=>by
    rw [←hPS] at hp
    obtain ⟨b,hb,rfl⟩:=List.mem_map.1 hp
    exact uC HF.out (HFB.out b hb)
   subst hkn
   clear hPS HTK
   have HSP:=HS
   clear HS
   obtain ⟨PA,rfl⟩:∃y,y=A1:=⟨A1,rfl⟩
   obtain ⟨pc,rfl⟩:∃y,y=cA:=⟨cA,rfl⟩
   obtain ⟨bn,rfl⟩:∃y,y=k:=⟨k,rfl⟩
   go_wp2_with fail
   go_loopw [5,8] (fun v i wr=>∃(k:Nat) (A:Option Addr) (n c:Nat),k<=bn/\i = .int .i64 (k:Int)/\v = .slice A n c/\n<=2 * k/\aM W0 wr [.cel (bD (jW l bs k)) (.slice A n c),.cel (qa PS) (.slice PA bn pc)]) (fun _ i _=>bn - (intOf i).toNat)
   case atStart=>exact ⟨0,_,0,_,by omega,rfl,rfl,by omega,HSP.out⟩
   case round =>
    obtain ⟨k,A1,n1,cA,hk,rfl,rfl,hn1,hs⟩:=hrel
    have HS:=Hd hs
    clear hs
    by_cases hlt:k<bn
    ·have hdk:decide ((k:Int)<(bn:Int))=true:=by simp;omega
     have hkl:k<bs.length:=by rw [HBL.out];exact hlt
     obtain ⟨bb,ob,EA,en,ec,hBA,hbb,c0,c1,c2,r2⟩:=HB.out.blk (k:=k) hkl
     have HBA:=Hd hBA
     have hft:=HFB.out _ (List.getElem_mem hkl)
     rw [show bs[k]=bs[k]?.getD Blk.zero by rw [List.getElem?_eq_getElem hkl];rfl] at hft
     have hol2:=qA hft
     have HTK:=Hd (mi l bs k)
     rw [HPS.out] at HTK
     clear hkl hBA
     generalize bs[k]?.getD Blk.zero=b at *
     obtain ⟨kd,it,es⟩:=b
     simp only at c0 c1
     have HE:=Hd (show RdC w w.heap.size (dF es) (.slice EA en ec) from r2)
     have hel:es.length=en:=HE.out.esN
     have hen:en<=2:=by rw [←hel];exact lV hft
     have HKN:=Hd hft.1
     obtain rfl:=HBA.out
     have i0:(0:Int)<=(k:Int):=by omega
     have i1:(k:Int)<(bn:Int):=by omega
     have HKEEP:Hid (∀w',Below W0.heap.size W0 w'→(w'.cell? ⟨w.heap.size,0,none⟩=some (.int .i64 l.inputs)/\w'.cell? ⟨w.heap.size,1,none⟩=some (.slice SA sn sc)/\w'.cell? ⟨w.heap.size,2,none⟩=some (.slice LA ln lc)/\w'.cell? ⟨w.heap.size,3,none⟩=some (.slice OA on oc)/\w'.cell? ⟨bb,ob+k * 3,none⟩=some (.int .i64 kd)/\w'.cell? ⟨bb,ob+k * 3+1,none⟩=some (.int .i64 it)/\w'.cell? ⟨bb,ob+k * 3+2,none⟩=some (.slice EA en ec))):=fun v hv=>⟨aA (k:=0) (aD hv HXB.out) rfl,aA (k:=1) (aD hv HXB.out) rfl,aA (k:=2) (aD hv HXB.out) rfl,aA (k:=3) (aD hv HXB.out) rfl,((aB HB0.out hv).cell (p:=⟨bb,ob+k * 3,none⟩) hbb).trans c0,((aB HB0.out hv).cell (p:=⟨bb,ob+k * 3+1,none⟩) hbb).trans c1,((aB HB0.out hv).cell (p:=⟨bb,ob+k * 3+2,none⟩) hbb).trans c2⟩
     clear r2 hel hft c0 c1 c2
     obtain ⟨x0,x1,x2,x3,c0,c1,c2⟩:=HKEEP.out _ HS.out.bel
     have lx:=aC (aD HS.out.bel HXB.out)
     have lbb:=aL (aB HB0.out HS.out.bel) hbb
     have hS:=Hd HS.out.drew
     have hD:=hS.out.bel
     have HCP:=Hd (fun (v:World) (hv:Below W0.heap.size W0 v)=>qx l SA LA OA sn sc ln lc on oc kd it es EA en ec v (HN.out.below (aB HB0.out hv)) HF.out (HE.out.below (aB HB0.out hv)) HKN.out (by omega))
     go_upto_region 12 with fail
     go_region_held3 (fun w'=>w'.cell? ⟨w.heap.size,0,none⟩=some (.int .i64 l.inputs)/\w'.cell? ⟨w.heap.size,1,none⟩=some (.slice SA sn sc)/\w'.cell? ⟨w.heap.size,2,none⟩=some (.slice LA ln lc)/\w'.cell? ⟨w.heap.size,3,none⟩=some (.slice OA on oc)/\w'.cell? ⟨bb,ob+k * 3,none⟩=some (.int .i64 kd)/\w'.cell? ⟨bb,ob+k * 3+1,none⟩=some (.int .i64 it)/\w'.cell? ⟨bb,ob+k * 3+2,none⟩=some (.slice EA en ec))
      (first|with_reducible exact HKEEP.out _ hD)
      ((first
       | (go_at_call 112;(with_reducible refine (HCP.out _ hD).mono ?_);rintro e5 w5 ⟨UA,un,uc,rfl,ou,b5⟩;replace hD:=aB hD b5;have HUO:=Hd ou.len;have HS4:=Hd (hS.out.pushOwn b5 ou);clear b5 ou)))
     have hun:un<=2:=by rw [←HUO.out];exact hol2
     clear hol2 HUO hS hD HKEEP
     clear x0 x1 x2 x3 lx c0 c1 c2 lbb
     generalize iw l ⟨kd,it,es⟩=us at *
     generalize jW l bs k=CT at *
     have HUL:=Hd (HS4.out.ints 2 rfl).1
     rw [HUL.out] at HTK
     go_wp2_with fail
     go_loopw [5,10] (fun v i wr=>∃(p:Nat) (A:Option Addr) (n c:Nat),p<=un/\i = .int .i64 (p:Int)/\v = .slice A n c/\n<=2 * k+p/\aM W0 wr [.cel (bD (CT++fu PS k us p)) (.slice A n c),.cel (qa PS) (.slice PA bn pc),.cel (aJ us) (.slice UA un uc)]) (fun _ i _=>un - (intOf i).toNat)
     case atStart=>exact ⟨0,_,_,_,by omega,rfl,rfl,by omega,by simpa [fu] using HS4.out⟩
     case round =>
      obtain ⟨p,A2,n2,cB,hp,rfl,rfl,hn2,hs⟩:=hrel
      have HS5:=Hd hs
      clear hs
      by_cases hltp:p<un
      ·have hdp:decide ((p:Int)<(un:Int))=true:=by simp;omega
       obtain ⟨bu,ou,hUA,lbu,hcu⟩:=(HS5.out.ints 2 rfl).2 (by omega)
       have HUA:=Hd hUA
       have cu:=hcu p hltp
       have HTP:=Hd (nW PS k us p)
       obtain ⟨N,hN⟩:∃N,us[p]?.getD 0=N:=⟨_,rfl⟩
       rw [hN] at cu HTP
       have HUN:=Hd hN
       obtain rfl:=HUA.out
       clear hcu hUA hN
       have i2:(0:Int)<=(p:Int):=by omega
       have i3:(p:Int)<(un:Int):=by omega
       have HA5:Hid (aM W0 (wr.alloc (.cells #[.int .i64 N,.int .i64 (k:Int),.int .i64 (p:Int),.slice none 0 0] 158)) [.cel (bD (CT++fu PS k us p)) (.slice A2 n2 cB),.cel (qa PS) (.slice PA bn pc),.cel (aJ us) (.slice (some ⟨bu,ou,none⟩) un uc),.blk wr.heap.size #[.int .i64 N,.int .i64 (k:Int),.int .i64 (p:Int),.slice none 0 0] 158,.cel (bM (fJ PS N 0)) (.slice none 0 0)]):=((HS5.out.pushBlk _ _).pushNil 100 2)
       obtain ⟨gc,hgc⟩:∃g,wr.heap.size=g:=⟨_,rfl⟩
       go_upto_region 17 with fail
       rw [hgc] at HA5
       (try rw [hgc])
       have HGC:=Hd hgc
       clear hgc cu lbu
       generalize wr.alloc (.cells #[.int .i64 N,.int .i64 (k:Int),.int .i64 (p:Int),.slice none 0 0] 158)=W6 at *
       go_wp2_with fail
       go_loopw [12] (fun i wr=>∃(j:Nat) (SK:Option Addr) (m c:Nat),j<=bn/\i = .int .i64 (j:Int)/\m<=5 * j/\aM W0 wr [.cel (bD (CT++fu PS k us p)) (.slice A2 n2 cB),.cel (qa PS) (.slice PA bn pc),.cel (aJ us) (.slice (some ⟨bu,ou,none⟩) un uc),.blk gc #[.int .i64 N,.int .i64 (k:Int),.int .i64 (p:Int),.slice SK m c] 158,.cel (bM (fJ PS N j)) (.slice SK m c)]) (fun i _=>bn - (intOf i).toNat)
       case atStart=>exact ⟨0,none,0,0,by omega,rfl,by omega,HA5.out⟩
       case round =>
        obtain ⟨j,SK,m,mc,hj,rfl,hm,hs⟩:=hrel
        have HS6:=Hd hs
        clear hs
        by_cases hltj:j<bn
        ·have hdj:decide ((j:Int)<(bn:Int))=true:=by simp;omega
         have hjl:j<PS.length:=by rw [HPL.out];exact hltj
         have h5:=HP5.out _ (List.getElem_mem hjl)
         rw [show PS[j]=PS[j]?.getD [] by rw [List.getElem?_eq_getElem hjl];rfl] at h5
         have HTJ:=Hd (oD PS N j)
         obtain ⟨qs,hqs⟩:∃qs,PS[j]?.getD []=qs:=⟨_,rfl⟩
         rw [hqs] at HTJ h5
         have HQS:=Hd hqs
         have HJL:=Hd hjl
         clear hjl hqs
         generalize fJ PS N j=SJ at *
         have i4:(0:Int)<=(j:Int):=by omega
         have i5:(j:Int)<(bn:Int):=by omega
         go_wp2_with fail
         go_loopw [13] (fun i wr=>∃(q:Nat) (SK:Option Addr) (m c:Nat),q<=qs.length/\i = .int .i64 (q:Int)/\m<=5 * j+q/\aM W0 wr [.cel (bD (CT++fu PS k us p)) (.slice A2 n2 cB),.cel (qa PS) (.slice PA bn pc),.cel (aJ us) (.slice (some ⟨bu,ou,none⟩) un uc),.blk gc #[.int .i64 N,.int .i64 (k:Int),.int .i64 (p:Int),.slice SK m c] 158,.cel (bM (SJ++kY N j qs q)) (.slice SK m c)]) (fun i _=>qs.length - (intOf i).toNat)
         case atStart=>exact ⟨0,_,_,_,by omega,rfl,by omega,by simpa [kY] using HS6.out⟩
         case round =>
          obtain ⟨q,SK,m,mc,hq,rfl,hm,hs⟩:=hrel
          have HS4':=Hd hs
          clear hs
          obtain ⟨bp,op,PT,pm,pp,hPA,lbp,cp,rp⟩:=(HS4'.out.rd 1 rfl).rowsR (k:=j) HJL.out
          rw [HQS.out] at rp
          have HPA:=Hd hPA
          have HRP:=Hd rp.ints
          have hpm:qs.length=pm:=rp.ints.1
          clear rp hPA
          obtain rfl:=HPA.out
          by_cases hltq:q<pm
          ·have hdq:decide ((q:Int)<(pm:Int))=true:=by simp;omega
           obtain ⟨bq,oq,hPT,lbq,hcq⟩:=HRP.out.2 (by omega)
           have HPT:=Hd hPT
           have cq:=hcq q hltq
           obtain ⟨b2,o2,hU2,lbu2,hcu⟩:=(HS4'.out.ints 2 rfl).2 (by omega)
           obtain ⟨rfl,rfl⟩:bu=b2/\ou=o2:=by
            injection hU2 with h
            injection h with h1 h2
            exact ⟨h1,h2⟩
           have cu:=hcu p hltp
           rw [HUN.out] at cu
           have HTQ:=Hd (qH N j qs q)
           clear hcq hPT hU2 hcu
           obtain rfl:=HPT.out
           generalize qs[q]?.getD 0=y at *
           generalize kY N j qs q=SQ at *
           have i6:(0:Int)<=(q:Int):=by omega
           have i7:(q:Int)<(pm:Int):=by omega
           by_cases hy:y=N
           ·have dy:(y==N)=true:=by simp [hy]
            have HC:Hid (SJ++kY N j qs (q+1)=SJ++SQ++[⟨(j:Int),(q:Int)⟩]):=by show _=_;rw [HTQ.out,if_pos hy,List.append_assoc]
            clear hy
            go_upto_region 23 with fail
            have hsub:=aZ wr
            have hsc:=aR wr
            refine aI wr (by kernel_rfl) (by kernel_rfl) (Below.refl _ _) ?_
            repeat (go_big_quiet_step (fail))
            refine wpQuiet_nil ?_
            rintro wq ⟨⟨w5,hD⟩,hw⟩
            replace hw:wq=w5:=hw
            subst hw
            have HSQ4:=Hd (HS4'.out.below hD)
            clear hsub hsc hD cp lbp cq lbq cu lbu2
            have hk6:=(HSQ4.out.blk 3 rfl).1
            have z3:=aA (k:=3) hk6 rfl
            have lz:=aC hk6
            have HSA:=Hd ((HSQ4.out.consPin (j:Int) (q:Int)).alloc (.cells #[.int .i64 (j:Int),.int .i64 (q:Int)] 100))
            have hm3:m<=1000:=by omega
            clear hk6
            go_wp2_with (at_builtin;refine gq rfl _ _ 156 100 rfl tiP _ 2 16 Tryz.underlying156 HIP.out.1 HIP.out.2.1 HIP.out.2.2.1 HIP.out.2.2.2 rfl (by decide) (by decide) _ (HSA.out) 5 0 (by decide) m mc _ SK ((SJ++SQ).flatMap bQ.cells) _ #[.int .i64 (j:Int),.int .i64 (q:Int)] _ rfl rfl rfl rfl (aK _ _) rfl (by omega) ?_;intro g9 cap w9 S9 hz9;have HK9:=Hd (S9.tail.blk 3 rfl).1;have l9:=aA (k:=3) HK9.out rfl;have f9:=aj HK9.out 3;have q9:=aC HK9.out;have HSQ:=Hd (S9.tail.put 3 rfl 3 (.slice (some ⟨g9,0,none⟩) (m+1) cap));clear S9 hz9)
            go_roundw
            case rel=>exact ⟨q+1,some ⟨g9,0,none⟩,m+1,cap,by omega,by go_num,by omega,by rw [HC.out];unfold bM;rw [rU];exact HSQ.out⟩
            case measure=>simp [intOf];omega
           ·have dy:(y==N)=false:=by simp [hy]
            have HC:Hid (SJ++kY N j qs (q+1)=SJ++SQ):=by show _=_;rw [HTQ.out,if_neg hy,List.append_nil]
            clear hy
            go_upto_region 23 with fail
            have hsub:=aZ wr
            have hsc:=aR wr
            refine aI wr (by kernel_rfl) (by kernel_rfl) (Below.refl _ _) ?_
            repeat (go_big_quiet_step (fail))
            refine wpQuiet_nil ?_
            rintro wq ⟨⟨w5,hD⟩,hw⟩
            replace hw:wq=w5:=hw
            subst hw
            have HSQ4:=Hd (HS4'.out.below hD)
            clear hsub hsc hD cp lbp cq lbq cu lbu2
            go_wp2_with fail
            go_roundw
            case rel=>exact ⟨q+1,SK,m,mc,by omega,by go_num,by omega,by rw [HC.out];exact HSQ4.out⟩
            case measure=>simp [intOf];omega
          ·have hqn:q=qs.length:=by omega
           have hdq:decide ((q:Int)<(pm:Int))=false:=by simp;omega
           rw [hqn] at HS4' hm
           clear hqn
           go_wp2_with fail
           go_roundw
           case rel=>exact ⟨j+1,SK,m,mc,by omega,by go_num,by omega,by rw [HTJ.out];exact HS4'.out⟩
           case measure=>simp [intOf];omega
        ·have hjn:j=bn:=by omega
         have hdj:decide ((j:Int)<(bn:Int))=false:=by simp;omega
         have HTJ:Hid (fJ PS N j=fJ PS N PS.length):=by show _=_;rw [HPL.out,hjn]
         rw [HTJ.out] at HS6
         have hk6:=(HS6.out.blk 3 rfl).1
         have z0:=aA (k:=0) hk6 rfl
         have z1:=aA (k:=1) hk6 rfl
         have z2:=aA (k:=2) hk6 rfl
         have z3:=aA (k:=3) hk6 rfl
         have lz:=aC hk6
         have hml:(fJ PS N PS.length).length=m:=(HS6.out.rd 4 rfl).pinN
         clear hk6
         by_cases hm0:m=0
         ·have dm:decide ((0:Int)<(m:Int))=false:=decide_eq_false (by omega)
          have dm':decide (0<m)=false:=decide_eq_false (by omega)
          have HC:Hid (fu PS k us (p+1)=fu PS k us p):=by show _=_;rw [HTP.out];unfold qG;rw [if_pos (by omega),List.append_nil]
          have HS8:=Hd (HS6.out.sub (qs:=[_,_,_]) (List.Sublist.cons_cons _ (List.Sublist.cons_cons _ (List.Sublist.cons_cons _ (List.nil_sublist _)))))
          go_wp2_with fail
          go_roundw
          case rel=>exact ⟨p+1,_,_,_,by omega,by go_num,rfl,by omega,by rw [HC.out];exact HS8.out⟩
          case measure=>simp [intOf];omega
         ·have dm:decide ((0:Int)<(m:Int))=true:=decide_eq_true (by omega)
          have dm':decide (0<m)=true:=decide_eq_true (by omega)
          have HC:Hid (CT++fu PS k us (p+1)=CT++fu PS k us p++[⟨N,⟨(k:Int),(p:Int)⟩,fJ PS N PS.length⟩]):=by show _=_;rw [HTP.out];unfold qG;rw [if_neg (by omega),List.append_assoc]
          have HS8:=Hd ((HS6.out.connCels 4 N (k:Int) (p:Int) rfl).alloc (.cells #[.int .i64 N,.int .i64 (k:Int),.int .i64 (p:Int),.slice SK m mc] 158))
          have hn3:n2<=1000:=by omega
          clear hml
          go_wp2_with (at_builtin;refine gq rfl _ _ 43 158 rfl tiC _ 4 48 Tryz.underlying43 HIC.out.1 HIC.out.2.1 HIC.out.2.2.1 HIC.out.2.2.2 rfl (by decide) (by decide) _ (HS8.out) 0 4 (by decide) n2 cB _ A2 ((CT++fu PS k us p).flatMap Cn.cells) _ #[.int .i64 N,.int .i64 (k:Int),.int .i64 (p:Int),.slice SK m mc] _ rfl rfl rfl rfl (aK _ _) rfl (by omega) ?_;intro g9 cap w9 S9 hz9;have HS9:=Hd (S9.sub (qs:=[_,_,_]) (List.Sublist.cons_cons _ (List.Sublist.cons_cons _ (List.Sublist.cons_cons _ (List.nil_sublist _)))));clear S9 hz9)
          go_roundw
          case rel=>exact ⟨p+1,_,_,_,by omega,by go_num,rfl,by omega,by rw [HC.out];unfold bD;rw [vE];exact HS9.out⟩
          case measure=>simp [intOf];omega
      ·have hpn:p=un:=by omega
       have hdp:decide ((p:Int)<(un:Int))=false:=by simp;omega
       rw [hpn] at HS5 hn2
       have HS8:=Hd (HS5.out.sub (qs:=[_,_]) (List.Sublist.cons_cons _ (List.Sublist.cons_cons _ (List.nil_sublist _))))
       go_wp2_with fail
       go_roundw
       case rel=>exact ⟨k+1,_,_,_,by omega,by go_num,rfl,by omega,by rw [HTK.out];exact HS8.out⟩
       case measure=>simp [intOf];omega
    ·have hkn:k=bn:=by omega
     have hdk:decide ((k:Int)<(bn:Int))=false:=by simp;omega
     have HTK:Hid (jW l bs k=df l bs):=by show _=_;rw [hkn];unfold df;rw [HBL.out]
     rw [HTK.out] at HS
     go_wp2_with fail
     go_ret
     exact ⟨_,_,_,rfl,(HS.out.tree 0 rfl).widen HB0.out.size (Nat.le_refl _),aB HB0.out HS.out.bel⟩
end Go.Proofs.YtofihjoanjkdmaaGreat
