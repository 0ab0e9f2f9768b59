/- FramesOk of the program and of the reference: one answer. copyLists, l19Copy, FlipBit, FlipFrame: the program's and the reference's answers are one. Codewords: decoding, repairing, distances. Checksum: the program's and the reference's compute one number. The data of frames and their checksum: the program's and the reference's answers are one. -/
import Derived.Test.YtignkfhdkcgkgaaGreatCopy
import Derived.Test.YtignkfhdkcgkgaaGreatCw
import Derived.Test.YtignkfhdkcgkgaaGreatHar
import Derived.Test.YtignkfhdkcgkgaaGreatTileRd
namespace Go.Proofs.YtignkfhdkcgkgaaGreat
set_option maxRecDepth 100000
open Go.RowKit

set_option maxHeartbeats 1000000 in
theorem framesOk_any (d:Dev) (A:Option Addr) (n c:Nat) (fs:List (List Int)) (w:World) (hA:Rows2 w A n fs) (hz:size2 fs≤1099511627776) :
  Calls Tryz.prog 40 #[.agg #[.int .i64 d.W,.int .i64 d.H,.int .i64 d.T,.int .i64 d.R],.slice A n c] w fun e w'=>e = .returned (.bool (framesOk d fs))∧Below w.heap.size w w':=by
 have hB0:Below w.heap.size w (w.alloc (.cells #[.int .i64 d.W,.int .i64 d.H,.int .i64 d.T,.int .i64 d.R] 25)):=below_new (Below.refl _ _) _
 have HI:=Lib.hid hA
 have hX:=hA.1
 obtain ⟨hn,hrow⟩:=size2_bd hX hz
 have HX:=Lib.hid hX
 have HR:=Lib.hid hrow
 clear hA hX hrow
 go_enter Tryz.func40,Tryz.ntmps40
 go_wp2_with fail
 refine (deviceOk_any d _).mono ?_
 rintro e w1 ⟨rfl,b1⟩
 have hs1:=b1.size
 simp only [World.size_alloc] at hs1
 obtain ⟨hcc,hff⟩:=bcell b1
 have B1:=Lib.hid b1
 clear b1
 cases hd:devOk d with
 | false =>
  have HD:=Lib.hid hd
  clear hd
  go_wp2_with fail
  go_ret
  exact ⟨ret_bool (by simp [framesOk,HD.out]),below_tr hB0 B1.out⟩
 | true =>
  obtain ⟨hN,hN1,hN2⟩:=tiles_eq hd
  obtain ⟨hw1,hw2,hh1,hh2,ht1,ht2,_⟩:=devOk_bd hd
  have HD:=Lib.hid hd
  clear hd
  by_cases hlen:n=tiles d
  ·subst hlen
   obtain ⟨hx1,hA⟩:=HI.out.below (below_tr hB0 B1.out)
   clear hx1 HI
   generalize hT:tiles d=N at *
   have HT:=Lib.hid hT
   have HN:=Lib.hid hN
   clear hT
   go_wp2_with fail
   clear hN
   go_loopw [22] (fun i wr=>∃k:Nat,k≤N∧i = .int .i64 k∧Below w1.heap.size w1 wr∧∀j,j<k→wordsOk (fs[j]?.getD []) (fwI d) 4194303=true) (fun i _=>N - (intOf i).toNat)
   case atStart=>exact ⟨0,Nat.zero_le _,rfl,Below.refl _ _,by intro j hj;omega⟩
   case round =>
    obtain ⟨k,hk,rfl,hbe,hall⟩:=hrel
    clear hcc hff
    obtain ⟨hcc,hff⟩:=bcell (below_tr B1.out hbe)
    have HE:=Lib.hid hbe
    have HALL:=Lib.hid hall
    clear hall
    by_cases hlt:k<N
    ·obtain ⟨b,o,rfl,hb,hc⟩:=hA (by omega)
     obtain ⟨A1,m1,c1,hck,hI1⟩:=hc k hlt
     rw [←hbe.cell (p:=⟨b,o+k,none⟩) hb] at hck
     have J1:=Lib.hid (hI1.below hbe)
     have hm1:m1≤1099511627776:=by have:=HR.out k;have:=hI1.1;omega
     have HBD:Hid (wordsOk (fs[k]?.getD []) (fwI d) 4194303=false→framesOk d fs=false):=fun h=>framesOk_bad (by rw [HX.out];exact hlt) h
     have HG:Hid (wordsOk (fs[k]?.getD []) (fwI d) 4194303=true→∀j,j<k+1→wordsOk (fs[j]?.getD []) (fwI d) 4194303=true):=fun h=>all_succ HALL.out h
     clear hc hI1 hbe
     generalize fs[k]?.getD []=f at *
     go_wp2_with fail
     refine (frameWords_any d _ ht1 ht2).mono ?_
     rintro e w2 ⟨rfl,b2⟩
     have J2:=Lib.hid (J1.out.below b2)
     have E2:=Lib.hid (below_tr HE.out b2)
     clear b2
     go_wp2_with fail
     refine (wordsOk_any A1 m1 c1 f _ _ _ J2.out hm1).mono ?_
     rintro e w3 ⟨rfl,b3⟩
     have E3:=Lib.hid (below_tr E2.out b3)
     clear b3 hck hcc hff
     obtain ⟨hcc,hff⟩:=bcell (below_tr B1.out E3.out)
     cases hin:wordsOk f (fwI d) 4194303 with
     | true =>
      have HG':=Lib.hid (HG.out hin)
      clear HG HBD hin
      go_wp2_with fail
      go_roundw
      case rel=>exact ⟨k+1,by omega,by go_num,E3.out,HG'.out⟩
      case measure=>simp [intOf];omega
     | false =>
      have HB':=Lib.hid (HBD.out hin)
      clear HG HBD hin
      go_wp2_with fail
      go_ret
      exact ⟨ret_bool (by rw [HB'.out]),below_tr hB0 (below_tr B1.out E3.out)⟩
    ·have hkn:k=N:=by omega
     subst hkn
     go_wp2
     go_ret
     exact ⟨ret_bool (by rw [framesOk_good HD.out (by rw [HX.out,HT.out]) (by rw [HX.out];exact HALL.out)]),below_tr hB0 (below_tr B1.out HE.out)⟩
  ·have hd1:((n:Int) != (tiles d:Int))=true:=by simp;omega
   go_wp2_with fail
   go_ret
   exact ⟨ret_bool (by have:=HX.out;simp [framesOk,HD.out];omega),below_tr hB0 B1.out⟩

set_option maxHeartbeats 1000000 in
theorem sframesOk_any (d:Dev) (A:Option Addr) (n c:Nat) (fs:List (List Int)) (w:World) (hA:Rows2 w A n fs) (hz:size2 fs≤1099511627776) :
  Calls Tryz.prog 120 #[.agg #[.int .i64 d.W,.int .i64 d.H,.int .i64 d.T,.int .i64 d.R],.slice A n c] w fun e w'=>e = .returned (.bool (framesOk d fs))∧Below w.heap.size w w':=by
 have hB0:Below w.heap.size w (w.alloc (.cells #[.int .i64 d.W,.int .i64 d.H,.int .i64 d.T,.int .i64 d.R] 25)):=below_new (Below.refl _ _) _
 have HI:=Lib.hid hA
 have hX:=hA.1
 obtain ⟨hn,hrow⟩:=size2_bd hX hz
 have HX:=Lib.hid hX
 have HR:=Lib.hid hrow
 clear hA hX hrow
 go_enter Tryz.func120,Tryz.ntmps120
 go_wp2_with fail
 refine (sdeviceOk_any d _).mono ?_
 rintro e w1 ⟨rfl,b1⟩
 have hs1:=b1.size
 simp only [World.size_alloc] at hs1
 obtain ⟨hcc,hff⟩:=bcell b1
 have B1:=Lib.hid b1
 clear b1
 cases hd:devOk d with
 | false =>
  have HD:=Lib.hid hd
  clear hd
  go_wp2_with fail
  go_ret
  exact ⟨ret_bool (by simp [framesOk,HD.out]),below_tr hB0 B1.out⟩
 | true =>
  obtain ⟨hN,hN1,hN2⟩:=tiles_eq hd
  obtain ⟨hw1,hw2,hh1,hh2,ht1,ht2,_⟩:=devOk_bd hd
  have HD:=Lib.hid hd
  clear hd
  by_cases hlen:n=tiles d
  ·subst hlen
   obtain ⟨hx1,hA⟩:=HI.out.below (below_tr hB0 B1.out)
   clear hx1 HI
   generalize hT:tiles d=N at *
   have HT:=Lib.hid hT
   have HN:=Lib.hid hN
   clear hT
   go_wp2_with fail
   clear hN
   refine (sframeWords_any d _ HD.out).mono ?_
   rintro e w2 ⟨rfl,b2⟩
   have hfb:=fwI_bd HD.out
   obtain ⟨F,hF⟩:∃F:Nat,fwI d=(F:Int):=⟨(fwI d).toNat,by omega⟩
   rw [hF] at hfb
   have E2:=Lib.hid (below_tr B1.out b2)
   have hA2:Hid (∀w3,Below w2.heap.size w2 w3→Rows2 w3 A N fs):=fun w3 h3=>Rows2.below (w:=w1) ⟨HX.out,hA⟩ (below_tr b2 h3)
   clear hcc hff b2 hA
   rw [hF]
   have HF:=Lib.hid hF
   clear hF
   go_wp2_with fail
   go_loopw [6] (fun i wr=>∃k nq:Nat,k≤N∧i = .int .i64 k∧wr=w2.drewN nq∧∀j,j<k→wordsOk (fs[j]?.getD []) (fwI d) 4194303=true) (fun i _=>N - (intOf i).toNat)
   case atStart=>exact ⟨0,0,Nat.zero_le _,rfl,rfl,by intro j hj;omega⟩
   case round =>
    obtain ⟨k,nq,hk,rfl,rfl,hall⟩:=hrel
    have HALL:=Lib.hid hall
    clear hall
    by_cases hlt:k<N
    ·obtain ⟨_,hA⟩:=hA2.out w2 (Below.refl _ _)
     obtain ⟨b,o,rfl,hb,hc⟩:=hA (by omega)
     obtain ⟨A1,m1,c1,hck,hI1⟩:=hc k hlt
     have hm1:m1≤1099511627776:=by have:=HR.out k;have:=hI1.1;omega
     have HM1:=Lib.hid hI1.1
     have hA1:=hI1.2
     have HBD:Hid (wordsOk (fs[k]?.getD []) (fwI d) 4194303=false→framesOk d fs=false):=fun h=>framesOk_bad (by rw [HX.out];exact hlt) h
     have HG:Hid (wordsOk (fs[k]?.getD []) (fwI d) 4194303=true→∀j,j<k+1→wordsOk (fs[j]?.getD []) (fwI d) 4194303=true):=fun h=>all_succ HALL.out h
     clear hc hI1 hA hA2
     generalize fs[k]?.getD []=f at *
     by_cases hmF:m1=F
     ·subst hmF
      go_wp2_with fail
      go_loopw [7] (fun i wr=>∃j mq:Nat,j≤m1∧i = .int .i64 j∧wr=w2.drewN mq∧∀q,q<j→inR (f[q]?.getD 0) 0 4194303=true) (fun i _=>m1 - (intOf i).toNat)
      case atStart=>exact ⟨0,nq,Nat.zero_le _,rfl,rfl,by intro j hj;omega⟩
      case round =>
       obtain ⟨j,mq,hj,rfl,rfl,hall2⟩:=hrel
       have HALL2:=Lib.hid hall2
       clear hall2
       by_cases hlj:j<m1
       ·obtain ⟨b2,o2,rfl,hb2,hc2⟩:=hA1 (by omega)
        have hcj:=hc2 j hlj
        have HX2:Hid (inR (f[j]?.getD 0) 0 4194303=false→wordsOk f (fwI d) 4194303=false):=fun h=>by
         rw [wordsOk,allIn_bad (by rw [HM1.out];exact hlj) h];simp
        have HY2:Hid (inR (f[j]?.getD 0) 0 4194303=true→∀q,q<j+1→inR (f[q]?.getD 0) 0 4194303=true):=fun h=>all_succ HALL2.out h
        clear hc2
        generalize f[j]?.getD 0=x at *
        cases hin:inR x 0 4194303 with
        | true =>
         have HY':=Lib.hid (HY2.out hin)
         clear HX2 HY2
         go_wp2_with (go_at_call 175;refine (l01In_any _ _ _ _).mono ?_;rintro e w' ⟨rfl,rfl⟩)
         go_roundw
         case rel=>exact ⟨j+1,_,by omega,by go_num,rfl,HY'.out⟩
         case measure=>simp [intOf];omega
        | false =>
         have HX':=Lib.hid (HBD.out (HX2.out hin))
         clear HX2 HY2
         go_wp2_with (go_at_call 175;refine (l01In_any _ _ _ _).mono ?_;rintro e w' ⟨rfl,rfl⟩)
         go_ret
         exact ⟨ret_bool (by rw [HX'.out]),below_drewN (below_tr hB0 E2.out) _⟩
       ·have hjm:j=m1:=by omega
        subst hjm
        have HG':=Lib.hid (HG.out (by rw [wordsOk,HM1.out,HF.out,allIn_good (by rw [HM1.out];exact HALL2.out)];simp))
        clear HG HBD
        go_wp2_with fail
        go_roundw
        case rel=>exact ⟨k+1,_,by omega,by go_num,rfl,HG'.out⟩
        case measure=>simp [intOf];omega
     ·have hd2:((m1:Int) != (F:Int))=true:=by simp;omega
      have HB':=Lib.hid (HBD.out (by rw [wordsOk,HM1.out,HF.out];simp;omega))
      clear HG HBD
      go_wp2_with fail
      go_ret
      exact ⟨ret_bool (by rw [HB'.out]),below_drewN (below_tr hB0 E2.out) _⟩
    ·have hkn:k=N:=by omega
     subst hkn
     go_wp2
     go_ret
     exact ⟨ret_bool (by rw [framesOk_good HD.out (by rw [HX.out,HT.out]) (by rw [HX.out];exact HALL.out)]),below_drewN (below_tr hB0 E2.out) _⟩
  ·have hd1:((n:Int) != (tiles d:Int))=true:=by simp;omega
   go_wp2_with fail
   go_ret
   exact ⟨ret_bool (by have:=HX.out;simp [framesOk,HD.out];omega),below_tr hB0 B1.out⟩
end Go.Proofs.YtignkfhdkcgkgaaGreat

namespace Go.Proofs.YtignkfhdkcgkgaaGreat
set_option maxRecDepth 100000
open Go.RowKit

set_option maxHeartbeats 400000 in
theorem copyInts_any (B:Option Addr) (m d:Nat) (ys:List Int) (w:World) (h:Ints w B m ys) (hm:m≤1099511627776) :
  Calls Tryz.prog 102 #[.slice B m d] w fun e w'=>∃A c,e = .returned (.slice A m c)∧Own w.heap.size w' A m c ys∧Below w.heap.size w w':=by
 have HI:=Lib.hid h
 clear h
 go_enter Tryz.func102,Tryz.ntmps102
 go_wp2_with (at_builtin;refine wpList_append_ints rfl _ _ rfl w.heap.size (some ⟨w.heap.size,0,none⟩) 0 0 [] rfl (Own.newAt (w:=w) rfl (Nat.le_refl _)) B m d ys rfl (HI.out.below (below_new (Below.refl _ _) _)) (by omega) (by simp) (below_new (Below.refl _ _) _) ?_;rintro A' c' w1 o1 b1 g1)
 have e0:0+m=m:=Nat.zero_add _
 go_ret
 exact ⟨A',c',by simp,by simpa using o1,b1⟩

theorem Own2.widen {lo hi lo' hi':Nat} {w:World} {A:Option Addr} {n c:Nat} {xss:List (List Int)} (h:Own2 lo hi w A n c xss) (h1:lo'≤lo) (h2:hi≤hi'):Own2 lo' hi' w A n c xss:=by
 obtain ⟨vs,k1,k2,k3⟩:=h
 refine ⟨vs,⟨k1.1,?_⟩,fun a ha=>Nat.lt_of_lt_of_le (k2 a ha) h2,(k3.widen h2).lower h1⟩
 rcases k1.2 with h0|⟨g,cap,cur,hv,hg,r⟩
 ·exact .inl h0
 ·exact .inr ⟨g,cap,cur,hv,Nat.le_trans h1 hg,r⟩
theorem Own2.new0 {w:World} {g:Nat} (hg:w.heap.size=g):Own2 g (w.alloc (.cells #[] 27)).heap.size (w.alloc (.cells #[] 27)) (some ⟨g,0,none⟩) 0 0 []:=by
 subst hg
 exact ⟨[],⟨rfl,.inr ⟨w.heap.size,0,#[],rfl,Nat.le_refl _,heap_new _ _,Nat.le_refl _,Nat.zero_le _,rfl,rfl⟩⟩,by rintro a ⟨⟩;simp,Inner.nil⟩

end Go.Proofs.YtignkfhdkcgkgaaGreat

namespace Go.Proofs.YtignkfhdkcgkgaaGreat
set_option maxRecDepth 100000
open Go.RowKit Cw

theorem dataW_lt (c:Nat):dataW c<65536:=gatherTo_lt c 21

/-! ### repairing -/
end Go.Proofs.YtignkfhdkcgkgaaGreat

namespace Go.Proofs.YtignkfhdkcgkgaaGreat
set_option maxRecDepth 100000
open Go.RowKit

end Go.Proofs.YtignkfhdkcgkgaaGreat

namespace Go.Proofs.YtignkfhdkcgkgaaGreat
set_option maxRecDepth 100000
open Go.RowKit

theorem dataOf_take {f:List Int} {k:Nat} (h:k<f.length):dataOf (f.take (k+1))=dataOf (f.take k)++[dataI (f[k]?.getD 0)]:=by
 unfold dataOf
 rw [List.take_succ_eq_append_getElem h,List.map_append,List.getElem?_eq_getElem h]
 rfl
theorem dataOf_length (f:List Int):(dataOf f).length=f.length:=by simp [dataOf]
theorem dataI_nat {c:Int} {x:Nat} (h:c=(x:Int)):dataI c=((Cw.dataW x:Nat):Int):=by rw [dataI,h,Int.toNat_natCast]
def InCode (f:List Int):Prop:=∀j,j<f.length→0≤f[j]?.getD 0∧f[j]?.getD 0≤4194303
theorem wordsOk_in {f:List Int} {count:Int} (h:wordsOk f count 4194303=true):InCode f∧(f.length:Int)=count:=by
 simp only [wordsOk,Bool.and_eq_true,decide_eq_true_eq] at h
 exact ⟨fun j hj=>allIn_get h.2 hj,h.1⟩
theorem frames_in {d:Dev} {fs:List (List Int)} (h:framesOk d fs=true) {j:Nat} (hj:j<fs.length):InCode (fs[j]?.getD [])∧((fs[j]?.getD []).length:Int)=fwI d:=wordsOk_in ((framesOk_iff h).2.2 j hj)

set_option maxHeartbeats 1000000 in
theorem l40Data_any (A:Option Addr) (n c:Nat) (f:List Int) (w:World) (h:Ints w A n f) (hin:InCode f) (hn:n≤16777216) :
  Calls Tryz.prog 136 #[.slice A n c] w fun e w'=>∃A' c',e = .returned (.slice A' n c')∧Own w.heap.size w' A' n c' (dataOf f)∧Below w.heap.size w w':=by
 obtain ⟨hx,hA⟩:=h
 have HX:=Lib.hid hx
 have HIN:=Lib.hid hin
 clear hx hin
 go_enter Tryz.func136,Tryz.ntmps136
 go_wp2_with fail
 go_loopw [3,4] (fun v i wr=>∃(k:Nat) (A':Option Addr) (c':Nat),k≤n∧i = .int .i64 k∧v = .slice A' k c'∧Own w.heap.size wr A' k c' (dataOf (f.take k))∧Below w.heap.size w wr) (fun _ i _=>n - (intOf i).toNat)
 case atStart=>exact ⟨0,_,0,Nat.zero_le _,rfl,rfl,by simpa [dataOf] using Own.new0 (Nat.le_refl _),below_new (Below.refl _ _) _⟩
 case round =>
  obtain ⟨k,A',c',hk,rfl,rfl,ho,hbe⟩:=hrel
  have HO:=Lib.hid ho
  have HE:=Lib.hid hbe
  clear ho
  by_cases hlt:k<n
  ·obtain ⟨b,o,rfl,hb,hc⟩:=hA (by omega)
   have hck:=hc k hlt
   rw [←hbe.cell (p:=⟨b,o+k,none⟩) hb] at hck
   have hs:=hbe.size
   have hx:=HIN.out k (by rw [HX.out];exact hlt)
   have HT:=Lib.hid (dataOf_take (f:=f) (k:=k) (by rw [HX.out];exact hlt))
   clear hc hbe
   generalize f[k]?.getD 0=x at *
   obtain ⟨x,rfl⟩:=Int.eq_ofNat_of_zero_le hx.1
   have HD:=Lib.hid (dataI_nat (c:=(x:Int)) rfl)
   go_wp2_with (first
    | ((with_reducible refine (sdataBits_any x _ (by omega)).mono ?_);rintro e w' ⟨rfl,rfl⟩)
    | (at_builtin;refine wpList_push rfl _ _ rfl w.heap.size A' k c' (dataOf (f.take k)) _ rfl HO.out rfl (by omega) hs HE.out ?_;rintro g4 cap w4 o4 b4 gr4 hat4))
   go_roundw
   case rel=>exact ⟨k+1,_,_,by omega,by go_num,rfl,by rw [HT.out,HD.out];exact o4,b4⟩
   case measure=>simp [intOf];omega
  ·have hkn:k=n:=by omega
   subst hkn
   go_wp2_with fail
   go_ret
   exact ⟨_,_,rfl,by have:=HO.out;rwa [List.take_of_length_le (by rw [HX.out];exact Nat.le_refl _)] at this,HE.out⟩

end Go.Proofs.YtignkfhdkcgkgaaGreat
