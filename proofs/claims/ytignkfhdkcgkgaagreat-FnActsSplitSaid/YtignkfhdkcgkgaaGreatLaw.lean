/- The reference's draws: a cursor over bytes; what a draw answers lies in its range. -/
import Derived.Test.YtignkfhdkcgkgaaGreatCopy
import Derived.Test.YtignkfhdkcgkgaaGreatPads
namespace Go.Proofs.YtignkfhdkcgkgaaGreat
set_option maxHeartbeats 1000000
set_option maxRecDepth 100000
open Go.RowKit
def kr (w:World) (B:Nat) (A:Option Addr) (n:Nat) (bs:List Int):Prop :=
 bs.length=n/\(∀j:Nat,0<=bs[j]?.getD 0/\bs[j]?.getD 0<=255)/\(0<n→∃b o,A=some ⟨b,o,none⟩/\b<B/\∀j,j<n→w.cell? ⟨b,o+j,none⟩=some (.int .u8 (bs[j]?.getD 0)))
theorem kr.keep {w w':World} {B:Nat} {A:Option Addr} {n:Nat} {bs:List Int} (h:kr w B A n bs) (hk:∀k,k<B→w'.heap[k]?=w.heap[k]?):kr w' B A n bs:=by
 refine ⟨h.1,h.2.1,fun hn=>?_⟩
 obtain ⟨b,o,e,hlt,hc⟩:=h.2.2 hn
 exact ⟨b,o,e,hlt,fun j hj=>(World.cell?_of_block (a:=⟨b,o+j,none⟩) (hk b hlt)).trans (hc j hj)⟩
theorem kr.below {w w':World} {B:Nat} {A:Option Addr} {n:Nat} {bs:List Int} (h:kr w B A n bs) (hb:Below B w w'):kr w' B A n bs:=h.keep hb.block
theorem kr.more {w:World} {B B':Nat} {A:Option Addr} {n:Nat} {bs:List Int} (h:kr w B A n bs) (hB:B<=B'):kr w B' A n bs:=by
 refine ⟨h.1,h.2.1,fun hn=>?_⟩
 obtain ⟨b,o,e,hlt,hc⟩:=h.2.2 hn
 exact ⟨b,o,e,Nat.lt_of_lt_of_le hlt hB,hc⟩
def Cur (w:World) (g B:Nat) (A:Option Addr) (n c:Nat) (bs:List Int):Prop :=
 ∃(i:Nat) (h:Int),i<=n/\B<=g/\w.heap[g]?=some (.cells #[.slice A n c,.int .i64 i,.int .i64 h] 138 (0,0))/\kr w B A n bs
theorem JL {w:World} {g:Nat} {o:Obj} (h:w.heap[g]?=some o):g<w.heap.size:=by
 rcases Nat.lt_or_ge g w.heap.size with hlt|hge
 ·exact hlt
 ·rw [Array.getElem?_eq_none hge] at h;cases h
theorem Cur.lt {w:World} {g B:Nat} {A:Option Addr} {n c:Nat} {bs:List Int} (h:Cur w g B A n c bs):g<w.heap.size:=by
 obtain ⟨i,x,_,_,hh,_⟩:=h
 exact JL hh
theorem Cur.below {w w':World} {g B:Nat} {A:Option Addr} {n c:Nat} {bs:List Int} (h:Cur w g B A n c bs) (hb:Below w.heap.size w w'):Cur w' g B A n c bs:=by
 have hl:=h.lt
 obtain ⟨i,x,hi,hB,hh,hbs⟩:=h
 exact ⟨i,x,hi,hB,(hb.block g hl).trans hh,hbs.below (hb.mono (Nat.le_trans hB (Nat.le_of_lt hl)))⟩
theorem Cur.keep {w w':World} {g B:Nat} {A:Option Addr} {n c:Nat} {bs:List Int} (h:Cur w g B A n c bs) (hg:w'.heap[g]?=w.heap[g]?) (hk:∀k,k<B→w'.heap[k]?=w.heap[k]?):Cur w' g B A n c bs:=by
 obtain ⟨i,x,hi,hB,hh,hbs⟩:=h
 exact ⟨i,x,hi,hB,hg.trans hh,hbs.keep hk⟩
theorem Cur.pushed {w w':World} {g B:Nat} {A:Option Addr} {n c:Nat} {bs:List Int} {o:Obj} {g':Nat} (h:Cur w g B A n c bs) (gr:(w.alloc o).grownBy w' (some g')) (hne:g'≠g) (hr:B<=g'):Cur w' g B A n c bs:=by
 have hl:=h.lt
 refine h.keep ((gr.block g (by simp;omega) (by simpa using fun e=>hne e.symm)).trans (Below.heap_alloc _ _ _ hl)) fun k hk=>?_
 obtain ⟨i,x,hi,hB,_⟩:=h
 exact (gr.block k (by simp;omega) (by simp;omega)).trans (Below.heap_alloc _ _ _ (by omega))
theorem Own.other {w w':World} {base g' m c':Nat} {xs:List Int} {r:Nat} (k:Own base w (some ⟨g',0,none⟩) m c' xs) (h:w.grownBy w' (some r)) (hne:g'≠r):Own base w' (some ⟨g',0,none⟩) m c' xs :=
 ak k fun a ha=>h.block _ (k.lt a ha).2 (by injection ha with ha;subst ha;simpa using hne)
theorem GZ (x:BitVec 64):(x &&& 255#64).toNat<=255:=by
 rw [BitVec.toNat_and]
 exact Nat.le_trans Nat.and_le_right (by decide)
theorem oz (a:Int):0<=bits .and .i64 a 255/\bits .and .i64 a 255<=255:=by
 have h:bits .and .i64 a 255=IntKind.i64.wrap ((BitVec.ofInt 64 a &&& 255#64).toNat:Int):=rfl
 have hb:=GZ (BitVec.ofInt 64 a)
 rw [h,IntWalk.i64_in _ (by omega)]
 omega
theorem lw (g B:Nat) (A:Option Addr) (n c:Nat) (bs:List Int) (w:World) (h:Cur w g B A n c bs) (hn:n<=1099511627776) :
  Calls Tryz.prog 100 #[.pointer (some ⟨g,0,none⟩)] w fun e w'=>∃x:Int,e = .returned (.int .i64 x)/\0<=x/\x<=255/\Cur w' g B A n c bs/\w.grownBy w' (some g):=by
 obtain ⟨i,x,hi,hBg,hh,hlen,hbd,hA⟩:=h
 have c0:w.cell? ⟨g,0,none⟩=some (.slice A n c):=by simp [World.cell?,hh]
 have c1:w.cell? ⟨g,1,none⟩=some (.int .i64 i):=by simp [World.cell?,hh]
 have c2:w.cell? ⟨g,2,none⟩=some (.int .i64 x):=by simp [World.cell?,hh]
 have f1:w.frozen? ⟨g,1,none⟩=false:=by simp [World.frozen?,hh]
 have f2:w.frozen? ⟨g,2,none⟩=false:=by simp [World.frozen?,hh]
 have HH:=Hd hh
 have HL:=Hd hlen
 have HB:=Hd hbd
 clear hh hlen hbd
 by_cases hin:i<n
 ·obtain ⟨b,o,rfl,hbg,hc⟩:=hA (by omega)
  have hci:=hc i hin
  have hne:b≠g:=by omega
  have HC:=Hd hc
  clear hc
  have hi0:(0:Int)<=(i:Int):=by omega
  have hi1:(i:Int)<(n:Int):=by omega
  go_enter Tryz.func100,Tryz.ntmps100
  go_wp2_with fail
  generalize wrap64 (wrap64 (x * 6364136223846793005)+1442695040888963407)=x' at *
  go_quiet (fail)
  have hy:=oz (bits .xor .i64 (x' / 8589934592) (x' / 35184372088832))
  generalize bits .and .i64 (bits .xor .i64 (x' / 8589934592) (x' / 35184372088832)) 255=y at *
  go_wp2_with fail
  go_quiet (fail)
  go_wp2_with fail
  go_quiet (fail)
  have hz:=oz (y+bs[i]?.getD 0)
  go_wp2_with fail
  go_ret
  refine ⟨_,rfl,?_,?_,⟨i+1,x',by omega,hBg,?_,HL.out,HB.out,fun _=>⟨b,o,rfl,hbg,fun j hj=>?_⟩⟩,?_⟩
  ·exact (oz _).1
  ·exact (oz _).2
  ·exact (bI (w:=(w.setCell ⟨g,2,none⟩ (.int .i64 x')).drewN _) (bI HH.out 2 (.int .i64 x')) 1 _).trans (by simp)
  ·exact ((World.cell?_of_block (a:=⟨b,o+j,none⟩) ((iU (w:=(w.setCell ⟨g,2,none⟩ (.int .i64 x')).drewN _) (p:=⟨g,1,none⟩) hne _).trans (iU (p:=⟨g,2,none⟩) hne _)))).trans (HC.out j hj)
  ·exact eZ (lX (eZ (ic _ _) _ _) _) _ _
 ·have hle:decide ((i:Int)<(n:Int))=false:=by simp;omega
  go_enter Tryz.func100,Tryz.ntmps100
  go_wp2_with fail
  generalize wrap64 (wrap64 (x * 6364136223846793005)+1442695040888963407)=x' at *
  go_quiet (fail)
  have hy:=oz (bits .xor .i64 (x' / 8589934592) (x' / 35184372088832))
  generalize bits .and .i64 (bits .xor .i64 (x' / 8589934592) (x' / 35184372088832)) 255=y at *
  go_wp2_with fail
  go_quiet (fail)
  go_wp2_with fail
  go_ret
  refine ⟨_,rfl,?_,?_,⟨i,x',by omega,hBg,?_,HL.out,HB.out,fun _=>?_⟩,?_⟩
  ·exact hy.1
  ·exact hy.2
  ·exact (bI HH.out 2 (.int .i64 x')).trans (by simp)
  ·obtain ⟨b,o,rfl,hbg,hc⟩:=hA (by omega)
   exact ⟨b,o,rfl,hbg,fun j hj=>(World.cell?_of_block (a:=⟨b,o+j,none⟩) (iU (p:=⟨g,2,none⟩) (by simp only;omega) _)).trans (hc j hj)⟩
  ·exact lX (lX (eZ (ic _ _) _ _) _) _
theorem wY {x n:Int} (_hx:0<=x) (hn:0<n):0<=x % n/\x % n<n:=⟨Int.emod_nonneg _ (by omega),Int.emod_lt_of_pos _ hn⟩
theorem aj (g B:Nat) (A:Option Addr) (n c:Nat) (bs:List Int) (m:Int) (w:World) (h:Cur w g B A n c bs) (hn:n<=1099511627776) (hm:0<m) (hm':m<=1099511627776) :
  Calls Tryz.prog 37 #[.pointer (some ⟨g,0,none⟩),.int .i64 m] w fun e w'=>∃x:Int,e = .returned (.int .i64 x)/\0<=x/\x<m/\Cur w' g B A n c bs/\w.grownBy w' (some g):=by
 have h0:decide (m<=0)=false:=by simp;omega
 have HC:=Hd h
 clear h
 by_cases h256:m<=256
 ·have h1:decide (m<=256)=true:=by simpa using h256
  go_enter Tryz.func37,Tryz.ntmps37
  go_wp2_with fail
  refine (lw g B A n c bs _ HC.out hn).mono ?_
  rintro e w1 ⟨x,rfl,hx0,hx1,k1,g1⟩
  have K1:=Hd k1
  have G1:=Hd g1
  clear k1 g1
  go_wp2_with fail
  go_ret
  exact ⟨_,rfl,(wY hx0 hm).1,(wY hx0 hm).2,K1.out,G1.out⟩
 ·have h1:decide (m<=256)=false:=by simpa using h256
  go_enter Tryz.func37,Tryz.ntmps37
  go_wp2_with fail
  refine (lw g B A n c bs _ HC.out hn).mono ?_
  rintro e w1 ⟨x,rfl,hx0,hx1,k1,g1⟩
  have K1:=Hd k1
  have G1:=Hd g1
  clear k1 g1
  go_wp2_with fail
  refine (lw g B A n c bs _ K1.out hn).mono ?_
  rintro e w2 ⟨y,rfl,hy0,hy1,k2,g2⟩
  have K2:=Hd k2
  have G2:=Hd (aO G1.out g2)
  clear k2 g2
  go_wp2_with fail
  refine (lw g B A n c bs _ K2.out hn).mono ?_
  rintro e w3 ⟨z,rfl,hz0,hz1,k3,g3⟩
  have K3:=Hd k3
  have G3:=Hd (aO G2.out g3)
  clear k3 g3
  go_wp2_with fail
  refine (lw g B A n c bs _ K3.out hn).mono ?_
  rintro e w4 ⟨v,rfl,hv0,hv1,k4,g4⟩
  have K4:=Hd k4
  have G4:=Hd (aO G3.out g4)
  clear k4 g4
  have hs:0<=x * 16777216+y * 65536+z * 256+v:=by omega
  go_wp2_with fail
  go_ret
  exact ⟨_,rfl,(wY hs hm).1,(wY hs hm).2,K4.out,G4.out⟩
theorem fB (g B:Nat) (A:Option Addr) (n c:Nat) (bs:List Int) (m:Int) (w:World) (h:Cur w g B A n c bs) (hn:n<=1099511627776) (hm:0<m) (hm':m<=1099511627776) :
  Calls Tryz.prog 94 #[.pointer (some ⟨g,0,none⟩),.int .i64 m] w fun e w'=>∃x:Bool,e = .returned (.bool x)/\Cur w' g B A n c bs/\w.grownBy w' (some g):=by
 have HC:=Hd h
 clear h
 go_enter Tryz.func94,Tryz.ntmps94
 go_wp2_with fail
 refine (aj g B A n c bs m _ HC.out hn hm hm').mono ?_
 rintro e w1 ⟨x,rfl,hx0,hx1,k1,g1⟩
 have K1:=Hd k1
 have G1:=Hd g1
 clear k1 g1
 go_wp2_with fail
 go_ret
 exact ⟨_,rfl,K1.out,G1.out⟩
/-! ### a new cursor -/
theorem Eg (A:Option Addr) (n c:Nat) (bs:List Int) (w:World) (h:kr w w.heap.size A n bs) (hn:n<=1099511627776) :
  Calls Tryz.prog 34 #[.slice A n c] w fun e w'=>∃g:Nat,e = .returned (.pointer (some ⟨g,0,none⟩))/\w.heap.size<=g/\Cur w' g w.heap.size A n c bs/\Below w.heap.size w w':=by
 have HB:=Hd h
 obtain ⟨hlen,hbd,hA⟩:=h
 have HX:=Hd hlen
 have HD:=Hd hbd
 clear hlen hbd
 go_enter Tryz.func34,Tryz.ntmps34
 go_wp2_with fail
 go_loopw [3,4] (fun v i wr=>∃(k nq:Nat) (x:Int),k<=n/\i = .int .i64 k/\v = .int .i64 x/\wr=w.drewN nq) (fun _ i _=>n - (intOf i).toNat)
 case atStart=>exact ⟨0,0,_,Nat.zero_le _,rfl,rfl,rfl⟩
 case round =>
  obtain ⟨k,nq,x,hk,rfl,rfl,rfl⟩:=hrel
  by_cases hlt:k<n/\k<4000
  ·obtain ⟨hlt,h4⟩:=hlt
   obtain ⟨b,o,rfl,hbg,hc⟩:=hA (by omega)
   have hck:=hc k hlt
   clear hc
   have hi0:(0:Int)<=(k:Int):=by omega
   have hi1:(k:Int)<(n:Int):=by omega
   go_wp2_with fail
   go_roundw
   case rel=>exact ⟨k+1,_,_,by omega,by go_num,rfl,rfl⟩
   case measure=>simp [intOf];omega
  ·by_cases hlt':k<n
   ·have hd:decide ((k:Int)<4000)=false:=by simp;omega
    go_wp2_with fail
    go_ret
    exact ⟨_,rfl,Nat.le_refl _,⟨0,x,Nat.zero_le _,Nat.le_refl _,aK _ _,HB.out.keep fun j hj=>Below.heap_alloc (w.drewN nq) _ _ hj⟩,aB (ai (Below.refl _ _) _) _⟩
   ·have hd:decide ((k:Int)<(n:Int))=false:=by simp;omega
    go_wp2_with fail
    go_ret
    exact ⟨_,rfl,Nat.le_refl _,⟨0,x,Nat.zero_le _,Nat.le_refl _,aK _ _,HB.out.keep fun j hj=>Below.heap_alloc (w.drewN nq) _ _ hj⟩,aB (ai (Below.refl _ _) _) _⟩
open Go.ChangeShapes Go.WideShapes Go.ChangeAt
theorem JM {a:Int} (h:(Lit.int .u8 a).wf=true):0<=a/\a<=255:=by
 simp [Lit.wf,IntKind.min,IntKind.max,IntKind.signed,IntKind.bits] at h
 exact h
section
variable {H:Type} {enc:TypeId × Value→H} {W:World} {b0 base:Nat} {spare:Nat→Bool} {held:Bool}
theorem xh {v:Value} {d:DataW H} {p:List MemPlace} (hv:Value.okWide Tryz.prog W .any b0 22 v) (h:DataW.Trod enc Tryz.prog W base (fun _=>true) held 22 v d p) :
  ∃(A:Option Addr) (n c:Nat) (xs:List Int),v = .slice A n c/\kr W W.heap.size A n xs/\n<=maxLen:=by
 obtain ⟨A,n,c,rfl⟩:=okWide_slice Tryz.underlying22 hv
 obtain ⟨fuel,hf⟩:=h
 rcases open_ints Tryz.underlying22 Tryz.underlying5 (by kernel_rfl) hf with ⟨hcs,_⟩|⟨x,l,c',zs,hcs,_,hl,hm,hz,_,hcell,hwz⟩
 ·simp [Value.cells] at hcs
  obtain ⟨rfl,rfl,rfl⟩:=hcs
  exact ⟨none,0,0,[],rfl,⟨rfl,by simp,fun h=>absurd h (by omega)⟩,Nat.zero_le _⟩
 ·simp [Value.cells] at hcs
  obtain ⟨rfl,rfl,rfl⟩:=hcs
  have hz':zs.length=c:=by simpa using hz
  refine ⟨_,_,_,zs.take n,rfl,⟨by simp;omega,fun j=>?_,fun hn=>?_⟩,Nat.le_trans hl hm⟩
  ·rw [List.getElem?_take]
   split
   ·rcases Nat.lt_or_ge j zs.length with h|h
    ·rw [List.getElem?_eq_getElem h]
     exact JM (hwz _ (List.getElem_mem h))
    ·rw [List.getElem?_eq_none h];simp
   ·simp
  ·have h0:=hcell 0 (by omega)
   rw [Ie] at h0
   obtain ⟨b,o,s⟩:=x
   have hs:s=none:=World.cell?_spot h0
   subst hs
   refine ⟨b,o,rfl,FV h0,fun j hj=>?_⟩
   have:=hcell j (by omega)
   rw [Addr.add_lit] at this
   rw [this,List.getElem?_take,if_pos hj]
   rfl
end
theorem wZ (A:Option Addr) (n c:Nat) (w:World) :
  Calls Tryz.prog 7 #[.slice A n c] w fun e w'=>e = .returned (.bool (decide ((n:Int)>1048576)))/\w=w':=by
 go_enter Tryz.func7,Tryz.ntmps7
 go_wp2_with fail
 go_ret
 exact ⟨rfl,rfl⟩
def atN (bs:List Int) (i:Nat):Int:=if bs.length=0 then 0 else bs[(i * 5+1) % bs.length]?.getD 0
theorem Ib {w:World} {B:Nat} {A:Option Addr} {n:Nat} {bs:List Int} (h:kr w B A n bs) (i:Nat):0<=atN bs i/\atN bs i<=255:=by
 unfold atN
 split
 ·omega
 ·exact h.2.1 _
theorem Jw (A:Option Addr) (n c:Nat) (bs:List Int) (i B:Nat) (w:World) (h:kr w B A n bs) (hn:n<=1099511627776) (hi:i<=1099511627776) :
  Calls Tryz.prog 11 #[.slice A n c,.int .i64 i] w fun e w'=>e = .returned (.int .i64 (atN bs i))/\w=w':=by
 have hb:=Ib h i
 obtain ⟨hlen,hbd,hA⟩:=h
 have HA:Hid (atN bs i=if bs.length=0 then 0 else bs[(i * 5+1) % bs.length]?.getD 0):=rfl
 rw [hlen] at HA
 by_cases h0:n=0
 ·subst h0
  go_enter Tryz.func11,Tryz.ntmps11
  go_wp2_with fail
  go_ret
  exact ⟨by rw [HA.out];rfl,rfl⟩
 ·obtain ⟨b,o,rfl,_,hc⟩:=hA (by omega)
  have hk:(i * 5+1) % n<n:=Nat.mod_lt _ (by omega)
  have hck:=hc _ hk
  have hbk:=hbd ((i * 5+1) % n)
  have hn0:((n:Int)==0)=false:=by simp;omega
  have hnz:¬(n:Int)=0:=by omega
  have htm:((i:Int) * 5+1).tmod n=(((i * 5+1) % n:Nat):Int):=by
   rw [show (i:Int) * 5+1=((i * 5+1:Nat):Int) by omega]
   exact Int.ofNat_tmod _ _
  clear hlen hbd hc
  generalize hkk:(i * 5+1) % n=k at *
  clear hkk
  go_enter Tryz.func11,Tryz.ntmps11
  go_wp2_with fail
  go_ret
  exact ⟨by rw [HA.out,if_neg h0];rfl,rfl⟩
theorem Jy (A:Option Addr) (n c:Nat) (bs:List Int) (w:World) (h:kr w w.heap.size A n bs) (hn:n<=1099511627776):Hid (∀(i:Nat) (x:Int) (w':World),x=(i:Int)→i<=1099511627776→Below w.heap.size w w'→Calls Tryz.prog 11 #[.slice A n c,.int .i64 x] w' fun e w''=>e = .returned (.int .i64 (atN bs i))/\w'=w'') :=
 fun i x w' hx hi hb=>by rw [hx];exact @Jw A n c bs i _ w' (h.below hb) hn hi
end Go.Proofs.YtignkfhdkcgkgaaGreat
