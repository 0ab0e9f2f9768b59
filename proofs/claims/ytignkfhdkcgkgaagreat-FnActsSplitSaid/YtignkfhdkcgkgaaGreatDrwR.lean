/- EmuRun: the outputs of all cycles as lists; states stay valid. -/
import Derived.Test.YtignkfhdkcgkgaaGreatDrwF
import Derived.Test.YtignkfhdkcgkgaaGreatEsPure
namespace Go.Proofs.YtignkfhdkcgkgaaGreat
set_option maxHeartbeats 4000000
set_option maxRecDepth 100000
open Go.RowKit
theorem FQ {d:Dev} {st:List Int} (hd:bL d=true) (hl:st.length=2 * tiles d) (h:∀i:Nat,0<=st[i]?.getD 0/\st[i]?.getD 0<=dV d i):ja d st=true:=rU hd hl fun j _=>aa.2 (h j)
theorem KO (d:Dev) (vs:List Int) (t:Int) (e:Le):0<=mx (mJ d vs t e)/\mx (mJ d vs t e)<=1:=by
 have:=FJ d vs t e
 unfold mx;split <;> omega
theorem xW {l:List Int} {i j:Nat} {v:Int}:(l.set i v)[j]?.getD 0=if i=j/\i<l.length then v else l[j]?.getD 0:=by
 by_cases h:i=j
 ·subst h
  by_cases h2:i<l.length
  ·rw [if_pos ⟨rfl,h2⟩];simp [h2]
  ·rw [if_neg (fun h=>h2 h.2),List.set_eq_of_length_le (by omega)]
 ·rw [if_neg (fun h2=>h h2.1),List.getElem?_set_ne h]
def Al (d:Dev) (l:List Int):Prop:=∀i:Nat,0<=l[i]?.getD 0/\l[i]?.getD 0<=dV d i
theorem uZ {d:Dev} {l:List Int} {i:Nat} {v:Int} (h:Al d l) (hv:0<=v/\v<=dV d i):Al d (l.set i v):=fun j=>by
 rw [xW]
 split
 ·rename_i hj;rw [←hj.1];exact hv
 ·exact h j
theorem zN {d:Dev} {ts:List aZ} {vs l:List Int} {k e:Nat} (h:Al d l) (hk:bA d (k:Int)=1) (he:e<2):Al d (uH d ts vs k l e):=by
 unfold uH
 split
 ·refine uZ h ?_
  have:=KO d vs (k:Int) (fe ts (k:Int) (e:Int))
  unfold dV
  rw [show ((2 * k+e) / 2:Nat)=k by omega,if_pos hk]
  exact this
 ·exact h
theorem GR {d:Dev} {ts:List aZ} {st vs:List Int} (hs:Al d st) (h3:In3 vs) (k:Nat):Al d (bQ d ts st vs k):=by
 induction k with
 | zero=>exact hs
 | succ k ih =>
  rw [bQ,nx1]
  split
  ·rename_i h1
   exact zN (e:=1) (zN (e:=0) ih h1 (by decide)) h1 (by decide)
  ·split
   ·rename_i h1 h2
    refine uZ ih ?_
    have hm:dV d (2 * k)=31:=by unfold dV;rw [show (2 * k / 2:Nat)=k by omega,if_neg (by omega),if_pos ⟨h2,by omega⟩]
    have h:=hs (2 * k)
    rw [hm] at h ⊢
    have hl:=AB (d:=d) h3 (k:Int) 4
    have:=EM (st[2 * k]?.getD 0).toNat (oM d vs (k:Int) 4) (by omega) (by omega)
    omega
   ·exact ih
theorem GU {d:Dev} {ts:List aZ} {st ps:List Int} (hd:bL d=true) (hs:ja d st=true) (hp:kM d ps=true):ja d (nU d ts st ps)=true:=by
 refine FQ hd ?_ ?_
 ·rw [nU,lU,oL hs]
 ·exact GR (qd hs) (vB (yw hs hp)) _
theorem xX {d:Dev} {fs:List (List Int)} (hf:ae d fs=true):ja d (cu d fs)=true:=by
 have hd:=(af hf).1
 have hr:kR d fs=ay d fs:=by rw [kR,if_pos hf]
 have hl:(cu d fs).length=2 * tiles d:=by unfold cu;rw [ek,hr,fV,(dR hf).1]
 have hc:=jC hf
 refine rU hd hl fun i hi=>aa.2 ?_
 have hk:i / 2<(ay d fs).length:=by rw [fV,(dR hf).1];omega
 have ht:bM d ((i / 2:Nat):Int)=true:=aV.2 ⟨hd,by omega,by rw [(bO hd).1];omega⟩
 have l0:=(qB (e:=0) hc ht (by omega)).1.init
 have l1:=(qB (e:=1) hc ht (by omega)).1.init
 have lr:=(qB (e:=0) hc ht (by omega)).2.2.2.ram
 have hg:=Bh (d:=d) (ts:=ay d fs) (m:=(ay d fs).length) hk (e:=i % 2) (by omega)
 rw [show 2 * (i / 2)+i % 2=i by omega] at hg
 unfold cu
 rw [hr,hg]
 unfold jU dV
 have hm:i % 2=0∨i % 2=1:=by omega
 by_cases h1:bA d ((i / 2:Nat):Int)=1
 ·rw [if_pos h1,if_pos h1]
  rcases hm with h|h <;> rw [h]
  ·exact l0
  ·exact l1
 ·rw [if_neg h1,if_neg h1]
  by_cases h2:bA d ((i / 2:Nat):Int)=2
  ·rw [if_pos h2]
   rcases hm with h|h <;> rw [h]
   ·rw [if_pos ⟨h2,rfl⟩];exact lr
   ·rw [if_neg (by omega)];exact ⟨Int.le_refl _,Int.le_refl _⟩
  ·rw [if_neg h2,if_neg (by omega)]
   rcases hm with h|h <;> rw [h] <;> exact ⟨Int.le_refl _,Int.le_refl _⟩
theorem Own.keepS {base lo hi:Nat} {w w':World} {A:Option Addr} {n c:Nat} {xs:List Int} (h:Own base w A n c xs) (k:Chg lo hi w w') (hb:hi<=base):Own base w' A n c xs :=
 ak h fun a ha=>k.block _ (h.lt a ha).2 (by have:=(h.lt a ha).1;omega)
theorem zO (x:Int) (w:World) (h:0<=x/\x<=6) :
  Calls Tryz.prog 153 #[.int .i64 x,.int .i64 0,.int .i64 6] w fun e w'=>e = .returned (.int .i64 x)/\w=w':=by
 have h0:decide (x<0)=false:=by simp;omega
 have h1:decide (x>6)=false:=by simp;omega
 go_enter Tryz.func153,Tryz.ntmps153
 go_wp2_with fail
 go_ret
 exact ⟨rfl,rfl⟩
theorem sI (g B:Nat) (A:Option Addr) (n c:Nat) (bs:List Int) (d:Dev) (w:World) (h:Cur w g B A n c bs) (hn:n<=1099511627776) (hd:bL d=true) :
  Calls Tryz.prog 93 #[.pointer (some ⟨g,0,none⟩),.agg #[.int .i64 d.W,.int .i64 d.H,.int .i64 d.T,.int .i64 d.R]] w fun e w'=>∃(ps:List Int) (A':Option Addr) (c':Nat),e = .returned (.slice A' (tiles d) c')/\ps.length=tiles d/\uU 1 ps/\Own w.heap.size w' A' (tiles d) c' ps/\Cur w' g B A n c bs/\w.grownBy w' (some g):=by
 have hgw:g<w.heap.size:=h.lt
 have HC:=Hd h
 have hb:=ah hd
 have HCW:=Hd (fun w=>zO d.W w (by omega))
 have HCH:=Hd (fun w=>zO d.H w (by omega))
 have HD:=Hd hd
 obtain ⟨hN,hN1,hN2⟩:=bO hd
 skip
 generalize tiles d=M at *
 have a3:IntKind.i64.wrap (M:Int)=(M:Int):=IntWalk.i64_in _ (by omega)
 have B0:=Hd (aB (Below.refl w.heap.size w) (.cells #[.int .i64 d.W,.int .i64 d.H,.int .i64 d.T,.int .i64 d.R] 25))
 have X0:=Hd (aW (.cells #[] 3) (aK w (.cells #[.int .i64 d.W,.int .i64 d.H,.int .i64 d.T,.int .i64 d.R] 25)))
 have B1:=Hd (aB B0.out (.cells #[] 3))
 have N1:=Hd (Own.newAt (w:=(w.alloc (.cells #[.int .i64 d.W,.int .i64 d.H,.int .i64 d.T,.int .i64 d.R] 25))) (base:=w.heap.size+1) (g:=w.heap.size+1) (by simp) (by simp))
 clear h hd hb
 go_enter Tryz.func93,Tryz.ntmps93
 go_wp2_with fail
 go_loopw [5,6] (fun v i wr=>∃(k:Nat) (ps:List Int) (A':Option Addr) (c':Nat),k<=M/\i = .int .i64 k/\v = .slice A' k c'/\ps.length=k/\uU 1 ps/\Own (w.heap.size+1) wr A' k c' ps/\Cur wr g B A n c bs/\w.grownBy wr (some g)/\wr.heap[w.heap.size]?=some (.cells #[.int .i64 d.W,.int .i64 d.H,.int .i64 d.T,.int .i64 d.R] 25 (0,0))/\w.heap.size+1<wr.heap.size) (fun _ i _=>M - (intOf i).toNat)
 case atStart=>exact ⟨0,[],_,0,Nat.zero_le _,rfl,rfl,rfl,xS (by omega),N1.out,HC.out.below B1.out,bX B1.out _,X0.out,by simp⟩
 case round =>
  obtain ⟨k,ps,A',c',hk,rfl,rfl,hpl,hpu,ho,hcu,hgw',hx,hsz⟩:=hrel
  have HO:=Hd ho
  have KC:=Hd hcu
  have HG:=Hd hgw'
  have HX:=Hd hx
  have HPL:=Hd hpl
  have HPU:=Hd hpu
  clear ho hcu hgw' hx hpl hpu
  obtain ⟨z0,z1,z2,z3⟩:=dK HX.out
  by_cases hlt:k<M
  ·have hdk:decide ((k:Int)<(M:Int))=true:=by simp;omega
   have H2:wr.cell? ⟨w.heap.size,0,none⟩=some (.int .i64 d.W)/\wr.cell? ⟨w.heap.size,1,none⟩=some (.int .i64 d.H):=⟨z0,z1⟩
   have hD:=(Below.refl wr.heap.size wr).drew
   clear z0 z1 z2 z3
   go_wp2_with fail
   go_region_held3 (fun w'=>w'.cell? ⟨w.heap.size,0,none⟩=some (.int .i64 d.W)/\w'.cell? ⟨w.heap.size,1,none⟩=some (.int .i64 d.H))
    (first|exact H2)
    (first
     | (go_at_call 153;(first|(with_reducible refine (HCW.out _).mono ?_)|(with_reducible refine (HCH.out _).mono ?_));rintro e w' ⟨rfl,rfl⟩))
   replace KC:=Hd (KC.out.below hD)
   replace HO:=Hd (HO.out.below hD)
   replace HG:=Hd (bG HG.out hD HG.out.size)
   replace HX:=Hd (iY HX.out)
   have hszd:w.heap.size+1<wr.drew.heap.size:=hsz
   clear hD H2 hsz
   go_wp2_with fail
   generalize wr.drew=wd at *
   refine (aj g B A n c bs 2 _ KC.out hn (by omega) (by omega)).mono ?_
   rintro e w5 ⟨x,rfl,hx,hx',k5,g5⟩
   replace HO:=Hd (HO.out.grownC g5 (by omega))
   replace HG:=Hd (aO HG.out g5)
   replace HX:=Hd ((aY g5 (aG HX.out) (by omega)).trans HX.out)
   replace KC:=Hd k5
   have hs5:=g5.size
   clear k5 g5
   go_wp2_with (at_builtin;refine av rfl _ _ rfl (w.heap.size+1) A' k c' ps _ rfl HO.out rfl (by omega) (by omega) (Below.refl (w.heap.size+1) _) ?_;rintro g4 cap w4 o4 b4 gr4 hat4)
   go_roundw
   case rel=>exact ⟨k+1,ps++[x],_,_,by omega,by go_num,rfl,by rw [List.length_append,HPL.out];rfl,oV HPU.out (by omega),o4,KC.out.keepB b4 (by omega),bG HG.out b4 (by omega),(b4.block _ (by omega)).trans HX.out,by have:=b4.size;omega⟩
   case measure=>simp [intOf];omega
  ·have hkm:k=M:=by omega
   subst hkm
   have hdk:decide ((k:Int)<(k:Int))=false:=by simp
   clear hlt hk
   have H2:wr.cell? ⟨w.heap.size,0,none⟩=some (.int .i64 d.W)/\wr.cell? ⟨w.heap.size,1,none⟩=some (.int .i64 d.H):=⟨z0,z1⟩
   have hD:=(Below.refl wr.heap.size wr).drew
   clear z0 z1 z2 z3
   go_wp2_with fail
   go_region_held3 (fun w'=>w'.cell? ⟨w.heap.size,0,none⟩=some (.int .i64 d.W)/\w'.cell? ⟨w.heap.size,1,none⟩=some (.int .i64 d.H))
    (first|exact H2)
    (first
     | (go_at_call 153;(first|(with_reducible refine (HCW.out _).mono ?_)|(with_reducible refine (HCH.out _).mono ?_));rintro e w' ⟨rfl,rfl⟩))
   replace KC:=Hd (KC.out.below hD)
   replace HO:=Hd (HO.out.below hD)
   replace HG:=Hd (bG HG.out hD HG.out.size)
   replace HX:=Hd (iY HX.out)
   have hszd:w.heap.size+1<wr.drew.heap.size:=hsz
   clear hD H2 hsz
   go_wp2_with fail
   generalize wr.drew=wd at *
   go_ret
   exact ⟨ps,_,_,rfl,HPL.out,HPU.out,HO.out.more (by omega),KC.out,HG.out⟩
end Go.Proofs.YtignkfhdkcgkgaaGreat
