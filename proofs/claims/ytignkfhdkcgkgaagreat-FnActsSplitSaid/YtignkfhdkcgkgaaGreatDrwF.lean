/- BuildFrames of the reference for valid tiles: the frames, which are valid. -/
import Derived.Test.YtignkfhdkcgkgaaGreatDrwT
namespace Go.Proofs.YtignkfhdkcgkgaaGreat
set_option maxHeartbeats 4000000
set_option maxRecDepth 100000
open Go.RowKit Cw
def yF (x:Int):Int:=((encW x.toNat:Nat):Int)
def qI (d:Dev) (t:aZ):List Int:=(tN d t).map yF
def jl (d:Dev) (ts:List aZ):List (List Int):=ts.map (qI d)
theorem Iw (x:Int):0<=yF x/\yF x<=4194303:=by
 have:=Fa x.toNat
 unfold yF
 omega
theorem pO (d:Dev) (t:aZ):(qI d t).length=(fwI d).toNat:=by simp [qI,ny]
theorem G7 {d:Dev} (hd:bL d=true) (t:aZ):bJ (qI d t) (fwI d) 4194303=true:=by
 unfold bJ
 rw [Bool.and_eq_true,decide_eq_true_eq,pO]
 refine ⟨by have:=(jG hd).1;omega,iZ fun j hj=>aa.2 ?_⟩
 rw [qI,List.getElem?_map,getD_some 0 (by rw [pO] at hj;rw [ny];exact hj)]
 exact Iw _
theorem yc {d:Dev} {ts:List aZ} (hd:bL d=true) (hl:ts.length=tiles d):ae d (jl d ts)=true:=by
 refine jd hd (by rw [jl,List.length_map,hl]) fun j hj=>?_
 rw [jl,List.length_map] at hj
 rw [jl,List.getElem?_map,getD_some aZ.zero hj]
 exact G7 hd _
theorem BM {α β:Type} {f:α→β} {xs:List α} {k:Nat} {x:α} (h:xs[k]?=some x):(xs.take (k+1)).map f=(xs.take k).map f++[f x]:=by
 rw [List.take_add_one,h]
 simp
theorem wh {B:Nat} {a b c:World} (h:Below B a b) (k:Below b.heap.size b c) (hB:B<=b.heap.size):Below B a c:=⟨k.os.trans h.os,k.tape.trans h.tape,k.output.trans h.output,Nat.le_trans h.size k.size,fun i hi=>(k.block i (Nat.lt_of_lt_of_le hi hB)).trans (h.block i hi)⟩
theorem kw (d:Dev) (A:Option Addr) (n c:Nat) (ts:List aZ) (w:World) (hT:RdC w w.heap.size (kY ts) (.slice A n c)) (hd:bL d=true) (hl:ts.length=tiles d) (hok:∀j,j<n→iD d (ts[j]?.getD aZ.zero)=true) :
  Calls Tryz.prog 133 #[.agg #[.int .i64 d.W,.int .i64 d.H,.int .i64 d.T,.int .i64 d.R],.slice A n c] w fun e w'=>∃A' c',e = .returned (.tuple #[.slice A' n c',.bool true])/\dA w.heap.size w'.heap.size w' A' n c' (jl d ts)/\Below w.heap.size w w':=by
 have HT:=Hd hT
 have HTL:=Hd hT.tlen
 have HD:=Hd hd
 have HOK:=Hd hok
 have e1:d.W * d.H=(n:Int):=by have h1:=hT.tlen;have h2:=(bO hd).1;omega
 have hn36:n<=36:=by have h1:=hT.tlen;have h2:=(bO hd).2;omega
 have a0:IntKind.i64.wrap (n:Int)=(n:Int):=IntWalk.i64_in _ (by omega)
 have hne:((n:Int) != (n:Int))=false:=by simp
 have HDO:=Hd (fun w'=>by have h:=dJ d w';rw [hd] at h;exact h)
 have HB0:=Hd (aB (aB (Below.refl w.heap.size w) (.cells #[.int .i64 d.W,.int .i64 d.H,.int .i64 d.T,.int .i64 d.R] 25)) (.cells #[] 27))
 clear hT hok hd
 go_enter Tryz.func133,Tryz.ntmps133
 go_wp2_with fail
 refine (HDO.out _).mono ?_
 rintro e w1 ⟨rfl,b1⟩
 have hs1:=b1.size
 simp only [World.size_alloc] at hs1
 have HW1:=Hd (aA HB0.out b1)
 obtain ⟨q0,q1,q2,q3⟩:=gH b1 (by simp;omega) (gH (aB (Below.refl _ _) _) (by simp) (vF w d))
 have HNIL:Hid (dA (w.heap.size+1) w1.heap.size w1 (some ⟨w.heap.size+1,0,none⟩) 0 0 []):=by
  have h:=(dA.new0 (w:=w.alloc (.cells #[.int .i64 d.W,.int .i64 d.H,.int .i64 d.T,.int .i64 d.R] 25)) (g:=w.heap.size+1) (by simp)).below b1
  exact h.widen (Nat.le_refl _) b1.size
 have HE1:Hid (Below (w.heap.size+1) (w.alloc (.cells #[.int .i64 d.W,.int .i64 d.H,.int .i64 d.T,.int .i64 d.R] 25)) w1):=by
  have h:=aA (aB (Below.refl (w.alloc (.cells #[.int .i64 d.W,.int .i64 d.H,.int .i64 d.T,.int .i64 d.R] 25)).heap.size (w.alloc (.cells #[.int .i64 d.W,.int .i64 d.H,.int .i64 d.T,.int .i64 d.R] 25))) (.cells #[] 27)) b1
  rwa [World.size_alloc] at h
 have hw0:w.heap.size<w1.heap.size:=by omega
 clear b1
 go_wp2_with fail
 clear q0 q1 q2 q3
 go_loopw [6,7] (fun v i wr=>∃(k:Nat) (A':Option Addr) (c':Nat),k<=n/\i = .int .i64 k/\v = .slice A' k c'/\dA (w.heap.size+1) wr.heap.size wr A' k c' ((ts.take k).map (qI d))/\Below (w.heap.size+1) (w.alloc (.cells #[.int .i64 d.W,.int .i64 d.H,.int .i64 d.T,.int .i64 d.R] 25)) wr/\w.heap.size+1<wr.heap.size) (fun _ i _=>n - (intOf i).toNat)
 case atStart=>exact ⟨0,_,0,Nat.zero_le _,rfl,rfl,by simpa using HNIL.out,HE1.out,by omega⟩
 case round =>
  obtain ⟨k,A',c',hk,rfl,rfl,hoo,hb,hsr⟩:=hrel
  have HOO:=Hd hoo
  have HB:=Hd hb
  have hbx:Below (w.alloc (.cells #[.int .i64 d.W,.int .i64 d.H,.int .i64 d.T,.int .i64 d.R] 25)).heap.size (w.alloc (.cells #[.int .i64 d.W,.int .i64 d.H,.int .i64 d.T,.int .i64 d.R] 25)) wr:=by rw [World.size_alloc];exact hb
  have HW:=Hd (aA (aB (Below.refl w.heap.size w) _) hbx)
  obtain ⟨q0,q1,q2,q3⟩:=gH hbx (by simp) (vF w d)
  clear hoo hb hbx
  by_cases hlt:k<n
  ·have hdk:decide ((k:Int)<(n:Int))=true:=by simp;omega
   obtain ⟨b,o,S,m3,p,L,l,q,rfl,hb,c0,c1,c2,c3,r0,r1⟩:=HT.out.tile (k:=k) (by rw [HTL.out];exact hlt)
   rw [←HW.out.cell (p:=⟨b,o+k * 4,none⟩) hb] at c0
   rw [←HW.out.cell (p:=⟨b,o+k * 4+1,none⟩) hb] at c1
   rw [←HW.out.cell (p:=⟨b,o+k * 4+2,none⟩) hb] at c2
   rw [←HW.out.cell (p:=⟨b,o+k * 4+3,none⟩) hb] at c3
   have hbr:b<wr.heap.size:=by have:=HW.out.size;omega
   have hwr0:w.heap.size<wr.heap.size:=by omega
   have HSN:=Hd (BM (f:=qI d) (getD_some aZ.zero (by rw [HTL.out];exact hlt):ts[k]?=some (ts[k]?.getD aZ.zero)))
   have HET:=Hd (fun (w':World) (hb':Below wr.heap.size wr w')=>wL d (ts[k]?.getD aZ.zero) S m3 p L l q w' ((RdC.ints (r0.below HW.out)).below hb') ((r1.below HW.out).below hb') (HOK.out k hlt))
   have i0:(0:Int)<=(k:Int):=by omega
   have i1:(k:Int)<(n:Int):=by omega
   have hD:=(Below.refl wr.heap.size wr).drew
   clear r0 r1
   generalize ts[k]?.getD aZ.zero=t at *
   go_wp2_with fail
   go_region_held3 (fun w'=>Below wr.heap.size wr w'/\∀b o,b<wr.heap.size→w'.cell? ⟨b,o,none⟩=wr.cell? ⟨b,o,none⟩)
    (first|exact ⟨hD,(aQ hD).1⟩)
    ((go_at_call 180;(with_reducible refine (HET.out _ hD).mono ?_);rintro e5 w5 ⟨A5,n5,c5,rfl,o5,b5⟩;have O5:=Hd o5;replace hD:=aA hD b5;clear b5 o5))
   have HD5:=Hd hD
   have hs5:=hD.size
   have hn5:n5=(tN d t).length:=O5.out.len.symm
   have hs50:w.heap.size+1<w5.heap.size:=by omega
   have hN5:n5<=11:=by rw [hn5,ny];have:=jG HD.out;omega
   have HN5:=Hd hn5
   clear hD hn5 c0 c1 c2 c3 q0 q1 q2 q3
   go_wp2_with fail
   have HEB:=Hd (fun j=>Fb d t j)
   have HRW:Hid (qI d t=(tN d t).map yF):=rfl
   have HLO:=Hd (O5.out.ints)
   have R0:=Hd (Own.new0 (w:=w5) (base:=w5.heap.size) (Nat.le_refl _))
   have RB:=Hd (aB (Below.refl w5.heap.size w5) (.cells #[] 3))
   generalize tN d t=ws at *
   go_loopw [10,11] (fun v i wx=>∃(j:Nat) (A2:Option Addr) (c2:Nat),j<=n5/\i = .int .i64 j/\v = .slice A2 j c2/\Own w5.heap.size wx A2 j c2 ((ws.take j).map yF)/\Below w5.heap.size w5 wx) (fun _ i _=>n5 - (intOf i).toNat)
   case atStart=>exact ⟨0,_,0,Nat.zero_le _,rfl,rfl,by simpa using R0.out,RB.out⟩
   case round =>
    obtain ⟨j,A2,c2,hj,rfl,rfl,ho,hb2⟩:=hrel
    have HO2:=Hd ho
    have HB2:=Hd hb2
    have hs2:=hb2.size
    by_cases hjl:j<n5
    ·have hdj:decide ((j:Int)<(n5:Int))=true:=by simp;omega
     obtain ⟨bw,ow,rfl,hbw,hcw⟩:=HLO.out.2 (by omega)
     have hck:=hcw j hjl
     rw [←hb2.cell (p:=⟨bw,ow+j,none⟩) hbw] at hck
     obtain ⟨x,hx,hx2⟩:=rA (HEB.out j)
     have HSM:=Hd (BM (f:=yF) (getD_some 0 (by rw [←HN5.out];exact hjl):ws[j]?=some (ws[j]?.getD 0)))
     have j0:(0:Int)<=(j:Int):=by omega
     have j1:(j:Int)<(n5:Int):=by omega
     rw [hx] at hck HSM
     have HEI:Hid (yF (x:Int)=((encW x:Nat):Int)):=by show _=_;unfold yF;rw [Int.toNat_natCast]
     clear hcw hx ho hb2
     go_wp2_with fail
     refine (mF x _ (by omega)).mono ?_
     rintro e8 w8 ⟨rfl,b8⟩
     have B8:=Hd b8
     have hs8:=b8.size
     clear b8
     go_wp2_with (at_builtin;refine av rfl _ _ rfl w5.heap.size A2 j c2 ((ws.take j).map yF) _ rfl (HO2.out.below B8.out) rfl (by omega) (by omega) (aA HB2.out B8.out) ?_;rintro g9 cap w9 o9 b9 - -)
     go_roundw
     case rel=>exact ⟨j+1,_,_,by omega,by go_num,rfl,by rw [HSM.out,HEI.out];exact o9,b9⟩
     case measure=>simp [intOf];omega
    ·have hjn:j=n5:=by omega
     subst hjn
     have hdj:decide ((j:Int)<(j:Int))=false:=by simp
     have HROW:Hid (Own w5.heap.size wr A2 j c2 (qI d t)):=by
      have h:=HO2.out
      rw [List.take_of_length_le (by rw [←HN5.out];exact Nat.le_refl _),←HRW.out] at h
      exact h
     have HOO5:=Hd ((HOO.out.below HD5.out).below HB2.out)
     have HBB:=Hd (wh (wh HB.out HD5.out (by omega)) HB2.out (by omega))
     clear ho hb2 hjl hj
     go_wp2_with (at_builtin;refine mV rfl _ _ rfl (w.heap.size+1) _ A' k c' ((ts.take k).map (qI d)) w5.heap.size A2 j c2 _ rfl HOO5.out HROW.out rfl (by omega) (by omega) (by omega) (by omega) (by omega) HBB.out ?_;rintro g6 cap w6 o6 b6)
     go_roundw
     case rel=>exact ⟨k+1,_,_,by omega,by go_num,rfl,by rw [HSN.out];exact o6,b6,by obtain ⟨vs,k1,k2,-⟩:=o6;have q1:=jJ k1 _ rfl;have q2:=k2 _ rfl;simp only at q1 q2;omega⟩
     case measure=>simp [intOf];omega
  ·have hkn:k=n:=by omega
   subst hkn
   have hdk:decide ((k:Int)<(k:Int))=false:=by simp
   have HFIN:Hid (dA (w.heap.size+1) wr.heap.size wr A' k c' (jl d ts)):=by
    have h:=HOO.out
    rwa [List.take_of_length_le (by rw [HTL.out];exact Nat.le_refl _)] at h
   go_wp2_with fail
   go_ret2
   exact ⟨_,_,rfl,HFIN.out.widen (by omega) (Nat.le_refl _),HW.out⟩
theorem dQ.grownC {lo hi g:Nat} {w w':World} {c:Cel} {v:Value} (h:dQ lo hi w c v) (k:w.grownBy w' (some g)) (hg:g<lo):dQ lo hi w' c v:=h.keep fun _ h1 _ h3=>aY k h3 (by omega)
theorem eX.grownC {lo hi g:Nat} {w w':World} {c:List Cel} {v:List Value} (h:eX lo hi w c v) (k:w.grownBy w' (some g)) (hg:g<lo):eX lo hi w' c v:=h.keep fun _ h1 _ h3=>aY k h3 (by omega)
theorem dA.grownC {lo hi g:Nat} {w w':World} {A:Option Addr} {n c:Nat} {xss:List (List Int)} (h:dA lo hi w A n c xss) (k:w.grownBy w' (some g)) (hg:g<lo):dA lo hi w' A n c xss :=
 h.chg (lo':=g) (hi':=g+1) ⟨k.os,k.tape,k.output,k.size,fun i hi hne=>aY k hi (by omega)⟩ (.inr (by omega))
theorem tT {α:Type} {xs:List α} {d:α} {j:Nat} (h:j<xs.length):xs[j]?.getD d=xs[j]:=by rw [List.getElem?_eq_getElem h];rfl
theorem tV (g B:Nat) (A:Option Addr) (n c:Nat) (bs:List Int) (d:Dev) (w:World) (h:Cur w g B A n c bs) (hn:n<=1099511627776) (hd:bL d=true) :
  Calls Tryz.prog 132 #[.pointer (some ⟨g,0,none⟩),.agg #[.int .i64 d.W,.int .i64 d.H,.int .i64 d.T,.int .i64 d.R]] w fun e w'=>∃(ts:List aZ) (A':Option Addr) (c':Nat),e = .returned (.slice A' (tiles d) c')/\ts.length=tiles d/\(∀t∈ts,iD d t=true)/\dQ w.heap.size w'.heap.size w' (kY ts) (.slice A' (tiles d) c')/\Cur w' g B A n c bs/\w.grownBy w' (some g):=by
 have hgw:g<w.heap.size:=h.lt
 have HC:=Hd h
 have HD:=Hd hd
 obtain ⟨hN,hN1,hN2⟩:=bO hd
 obtain ⟨i0,hi,hz0,hz1,hz2⟩:=info_parts vE
 have HI0:=Hd hi
 have HZ0:=Hd hz0
 have HZ1:=Hd hz1
 have HZ2:=Hd hz2
 have HTW:=Hd (fun (k:Nat) (hk:k<tiles d)=>(show 0<=(k:Int)/\(k:Int)<d.W * d.H from by omega))
 generalize hM:tiles d=M at *
 have a3:IntKind.i64.wrap (M:Int)=(M:Int):=IntWalk.i64_in _ (by omega)
 have B0:=Hd (aB (Below.refl w.heap.size w) (.cells #[.int .i64 d.W,.int .i64 d.H,.int .i64 d.T,.int .i64 d.R] 25))
 have X0:=Hd (aW (.cells #[] 103) (aK w (.cells #[.int .i64 d.W,.int .i64 d.H,.int .i64 d.T,.int .i64 d.R] 25)))
 have B1:=Hd (aB B0.out (.cells #[] 103))
 have N1:=Hd (xI (w:=(w.alloc (.cells #[.int .i64 d.W,.int .i64 d.H,.int .i64 d.T,.int .i64 d.R] 25))) 103 4 (g:=w.heap.size+1) (by simp))
 clear h hd hi hz0 hz1 hz2 hM
 go_enter Tryz.func132,Tryz.ntmps132
 go_wp2_with fail
 go_loopw [5,6] (fun v i wr=>∃(k:Nat) (ts:List aZ) (A':Option Addr) (c':Nat),k<=M/\i = .int .i64 k/\v = .slice A' k c'/\ts.length=k/\(∀t∈ts,iD d t=true)/\dQ (w.heap.size+1) wr.heap.size wr (kY ts) (.slice A' k c')/\Cur wr g B A n c bs/\w.grownBy wr (some g)/\wr.heap[w.heap.size]?=some (.cells #[.int .i64 d.W,.int .i64 d.H,.int .i64 d.T,.int .i64 d.R] 25 (0,0))/\w.heap.size+1<wr.heap.size) (fun _ i _=>M - (intOf i).toNat)
 case atStart=>exact ⟨0,[],_,0,Nat.zero_le _,rfl,rfl,rfl,by simp,N1.out.widen (Nat.le_refl _) (by simp),HC.out.below B1.out,bX B1.out _,X0.out,by simp⟩
 case round =>
  obtain ⟨k,ts,A',c',hk,rfl,rfl,htl,hto,ho,hcu,hgw',hx,hsz⟩:=hrel
  have HO:=Hd ho
  have KC:=Hd hcu
  have HG:=Hd hgw'
  have HX:=Hd hx
  have HTL:=Hd htl
  have HTO:=Hd hto
  clear htl hto ho hcu hgw' hx
  obtain ⟨z0,z1,z2,z3⟩:=dK HX.out
  by_cases hlt:k<M
  ·have hdk:decide ((k:Int)<(M:Int))=true:=by simp;omega
   go_wp2_with fail
   refine (Cf g B A n c bs d (k:Int) _ KC.out hn HD.out (HTW.out k hlt)).mono ?_
   rintro e w5 ⟨T,v,rfl,hT,⟨v0,v1,rfl,hown⟩,k5,g5⟩
   have OW:=Hd hown
   have OO:=Hd (HO.out.grownC g5 (by omega))
   replace HG:=Hd (aO HG.out g5)
   replace HX:=Hd ((aY g5 (aG HX.out) (by omega)).trans HX.out)
   replace KC:=Hd k5
   have hs5:=g5.size
   clear z0 z1 z2 z3 hown k5 g5
   go_wp2_with (at_builtin;refine pq (W:=w5) rfl _ _ 96 103 rfl i0 _ 4 64 Tryz.underlying96 HI0.out HZ0.out HZ1.out HZ2.out rfl (by omega) (by omega) (w.heap.size+1) wr.heap.size A' k c' _ wr.heap.size _ #[v0,v1,.int .i64 T.pad,.int .i64 T.ram] rfl OO.out OW.out rfl rfl (by omega) (by omega) (by omega) (by omega) (by omega) (Below.refl _ _) ?_;rintro g6 cap w6 o6 b6 _ hs6)
   go_roundw
   case rel =>
    refine ⟨k+1,ts++[T],_,_,by omega,by go_num,rfl,by rw [List.length_append,HTL.out];rfl,?_,?_,KC.out.keepB b6 (by omega),bG HG.out b6 (by omega),(b6.block _ (by omega)).trans HX.out,by omega⟩
    ·intro t ht
     rw [List.mem_append] at ht
     rcases ht with ht|ht
     ·exact HTO.out t ht
     ·obtain rfl:=List.mem_singleton.1 ht
      exact hT
    ·unfold kY
     rw [sV]
     exact o6
   case measure=>simp [intOf];omega
  ·have hkm:k=M:=by omega
   subst hkm
   have hdk:decide ((k:Int)<(k:Int))=false:=by simp
   go_wp2_with fail
   go_ret
   exact ⟨ts,_,_,rfl,HTL.out,HTO.out,HO.out.widen (by omega) (Nat.le_refl _),KC.out,HG.out⟩
theorem yf {w:World} {g:Nat} {v0 v1 v2 v3 u0 u1 u2 u3:Value} {t:TypeId} (h:w.heap[g]?=some (.cells #[v0,v1,v2,v3] t (0,0))):((((w.setCell ⟨g,0,none⟩ u0).setCell ⟨g,1,none⟩ u1).setCell ⟨g,2,none⟩ u2).setCell ⟨g,3,none⟩ u3).heap[g]?=some (.cells #[u0,u1,u2,u3] t (0,0)) :=
 (bI (bI (bI (bI h 0 u0) 1 u1) 2 u2) 3 u3).trans rfl
theorem zi (g B:Nat) (A:Option Addr) (n c:Nat) (bs:List Int) (w:World) (h:Cur w g B A n c bs) (hn:n<=1099511627776) :
  Calls Tryz.prog 131 #[.pointer (some ⟨g,0,none⟩)] w fun e w'=>∃d:Dev,e = .returned (.agg #[.int .i64 d.W,.int .i64 d.H,.int .i64 d.T,.int .i64 d.R])/\bL d=true/\Cur w' g B A n c bs/\w.grownBy w' (some g):=by
 have HC:=Hd h
 have hgw:g<w.heap.size:=h.lt
 clear h
 go_enter Tryz.func131,Tryz.ntmps131
 go_wp2_with fail
 refine (aj g B A n c bs 2 _ (HC.out.below (aB (Below.refl _ _) _)) hn (by omega) (by omega)).mono ?_
 rintro e w1 ⟨x1,rfl,hx1,hx1',k1,g1⟩
 have K1:=Hd k1
 have G1:=Hd g1
 clear k1 g1
 go_wp2_with fail
 refine (aj g B A n c bs 2 _ K1.out hn (by omega) (by omega)).mono ?_
 rintro e w2 ⟨x2,rfl,hx2,hx2',k2,g2⟩
 have K2:=Hd k2
 have G2:=Hd (aO G1.out g2)
 clear k2 g2
 go_wp2_with fail
 refine (aj g B A n c bs 2 _ K2.out hn (by omega) (by omega)).mono ?_
 rintro e w3 ⟨x3,rfl,hx3,hx3',k3,g3⟩
 have G3:=aO G2.out g3
 have hs3:=G3.size
 simp only [World.size_alloc] at hs3
 have hb3:Below w3.heap.size w3 (w3.alloc (.cells #[.int .i64 (3+x1),.int .i64 (3+x2),.int .i64 (1+x3),.int .i64 (-1)] 25)):=aB (Below.refl _ _) _
 have HR:=Hd (aJ hb3 ((aY G3 (by simp) (by omega)).trans (aK w (.cells #[.int .i64 0,.int .i64 0,.int .i64 0,.int .i64 0] 25))))
 have HX:=Hd (aK w3 (.cells #[.int .i64 (3+x1),.int .i64 (3+x2),.int .i64 (1+x3),.int .i64 (-1)] 25))
 have HG:=Hd (bG (aO (bX (aB (Below.refl w.heap.size w) (.cells #[.int .i64 0,.int .i64 0,.int .i64 0,.int .i64 0] 25)) (some g)) G3) hb3 (by omega))
 have KC:=Hd (k3.below hb3)
 have hgl:=k3.lt
 clear k3 g3 G3 hb3 K1 K2 G1 G2 HC
 have hne:w.heap.size≠w3.heap.size:=by omega
 by_cases h4:x1=1
 ·have hq4:(3+x1==4)=true:=by simp;omega
  have H1:=Hd h4
  clear h4
  obtain ⟨z0,z1,z2,z3⟩:=dK HX.out
  go_wp2_with fail
  refine (fB g B A n c bs 2 _ KC.out hn (by omega) (by omega)).mono ?_
  rintro e w5 ⟨y,rfl,k5,g5⟩
  replace HR:=Hd ((aY g5 (aG HR.out) (by omega)).trans HR.out)
  replace HX:=Hd ((aY g5 (aG HX.out) (by omega)).trans HX.out)
  replace HG:=Hd (aO HG.out g5)
  replace KC:=Hd k5
  clear k5 g5 z0 z1 z2 z3
  obtain ⟨z0,z1,z2,z3⟩:=dK HX.out
  obtain ⟨r0,r1,r2,r3⟩:=dK HR.out
  have f0:=fun k=>aF HR.out k
  have f00:=f0 0
  have f01:=f0 1
  have f02:=f0 2
  have f03:=f0 3
  have q3:=aF HX.out 3
  have l1:=aG HR.out
  have l2:=aG HX.out
  clear f0
  cases y with
  | false =>
   go_wp2_with fail
   have hE:=yf (u0 := .int .i64 (3+x1)) (u1 := .int .i64 (3+x2)) (u2 := .int .i64 (1+x3)) (u3 := .int .i64 (-1)) (HR.out)
   refine bodyPost_ret (v := .agg #[.int .i64 (3+x1),.int .i64 (3+x2),.int .i64 (1+x3),.int .i64 (-1)]) (bZ Tryz.results131 rfl hE Tryz.underlying25 (by kernel_rfl)) rfl ⟨⟨3+x1,3+x2,1+x3,(-1)⟩,rfl,?_,?_,?_⟩
   ·simp [bL,inR];omega
   ·exact (((KC.out.setNew hgw _ _).setNew hgw _ _).setNew hgw _ _).setNew hgw _ _
   ·exact aP (aP (aP (aP HG.out (Nat.le_refl _) _ _) (Nat.le_refl _) _ _) (Nat.le_refl _) _ _) (Nat.le_refl _) _ _
  | true =>
   go_wp2_with fail
   have hE:=yf (u0 := .int .i64 (3+x1)) (u1 := .int .i64 (3+x2)) (u2 := .int .i64 (1+x3)) (u3 := .int .i64 2) (aR (p:=⟨w3.heap.size,3,none⟩) (.int .i64 2) HR.out hne)
   refine bodyPost_ret (v := .agg #[.int .i64 (3+x1),.int .i64 (3+x2),.int .i64 (1+x3),.int .i64 2]) (bZ Tryz.results131 rfl hE Tryz.underlying25 (by kernel_rfl)) rfl ⟨⟨3+x1,3+x2,1+x3,2⟩,rfl,?_,?_,?_⟩
   ·have:=H1.out;simp [bL,inR];omega
   ·exact ((((KC.out.setNew hgl 3 (.int .i64 2)).setNew hgw _ _).setNew hgw _ _).setNew hgw _ _).setNew hgw _ _
   ·exact aP (aP (aP (aP (aP HG.out (show w.heap.size<=w3.heap.size by omega) 3 (.int .i64 2)) (Nat.le_refl _) _ _) (Nat.le_refl _) _ _) (Nat.le_refl _) _ _) (Nat.le_refl _) _ _
 ·have hq4:(3+x1==4)=false:=by simp;omega
  obtain ⟨z0,z1,z2,z3⟩:=dK HX.out
  obtain ⟨r0,r1,r2,r3⟩:=dK HR.out
  have f0:=fun k=>aF HR.out k
  have f00:=f0 0
  have f01:=f0 1
  have f02:=f0 2
  have f03:=f0 3
  have l1:=aG HR.out
  clear f0
  go_wp2_with fail
  have hE:=yf (u0 := .int .i64 (3+x1)) (u1 := .int .i64 (3+x2)) (u2 := .int .i64 (1+x3)) (u3 := .int .i64 (-1)) (HR.out)
  refine bodyPost_ret (v := .agg #[.int .i64 (3+x1),.int .i64 (3+x2),.int .i64 (1+x3),.int .i64 (-1)]) (bZ Tryz.results131 rfl hE Tryz.underlying25 (by kernel_rfl)) rfl ⟨⟨3+x1,3+x2,1+x3,(-1)⟩,rfl,?_,?_,?_⟩
  ·simp [bL,inR];omega
  ·exact (((KC.out.setNew hgw _ _).setNew hgw _ _).setNew hgw _ _).setNew hgw _ _
  ·exact aP (aP (aP (aP HG.out (Nat.le_refl _) _ _) (Nat.le_refl _) _ _) (Nat.le_refl _) _ _) (Nat.le_refl _) _ _
theorem yG (g B:Nat) (A:Option Addr) (n c:Nat) (bs:List Int) (w:World) (h:Cur w g B A n c bs) (hn:n<=1099511627776) :
  Calls Tryz.prog 87 #[.pointer (some ⟨g,0,none⟩)] w fun e w'=>∃(d:Dev) (ts:List aZ) (A':Option Addr) (c':Nat),e = .returned (.tuple #[.agg #[.int .i64 d.W,.int .i64 d.H,.int .i64 d.T,.int .i64 d.R],.slice A' (tiles d) c'])/\bL d=true/\ts.length=tiles d/\(∀t∈ts,iD d t=true)/\dA w.heap.size w'.heap.size w' A' (tiles d) c' (jl d ts)/\Cur w' g B A n c bs/\w.grownBy w' (some g):=by
 have HC:=Hd h
 have hgw:g<w.heap.size:=h.lt
 have B0:=Hd (aB (Below.refl w.heap.size w) (.cells #[.int .i64 0,.int .i64 0,.int .i64 0,.int .i64 0] 25))
 have HR:=Hd (aK w (.cells #[.int .i64 0,.int .i64 0,.int .i64 0,.int .i64 0] 25))
 clear h
 go_enter Tryz.func87,Tryz.ntmps87
 go_wp2_with fail
 refine (zi g B A n c bs _ (HC.out.below B0.out) hn).mono ?_
 rintro e w1 ⟨d,rfl,hd,k1,g1⟩
 have HD:=Hd hd
 have hs1:=g1.size
 simp only [World.size_alloc] at hs1
 have hb1:Below w1.heap.size w1 (w1.alloc (.cells #[.int .i64 d.W,.int .i64 d.H,.int .i64 d.T,.int .i64 d.R] 25)):=aB (Below.refl _ _) _
 replace HR:=Hd (aJ hb1 ((aY g1 (aG HR.out) (by omega)).trans HR.out))
 have HX:=Hd (aK w1 (.cells #[.int .i64 d.W,.int .i64 d.H,.int .i64 d.T,.int .i64 d.R] 25))
 have HG:=Hd (bG (aO (bX B0.out _) g1) hb1 (by omega))
 have KC:=Hd (k1.below hb1)
 have hsX:(w1.alloc (.cells #[.int .i64 d.W,.int .i64 d.H,.int .i64 d.T,.int .i64 d.R] 25)).heap.size=w1.heap.size+1:=by simp
 clear k1 g1 hb1 hd
 go_wp2_with fail
 generalize hW2:(w1.alloc (.cells #[.int .i64 d.W,.int .i64 d.H,.int .i64 d.T,.int .i64 d.R] 25))=w2 at *
 generalize hgd:w1.heap.size=gd at *
 clear hW2 hgd
 have hgd:g<gd:=by omega
 obtain ⟨z0,z1,z2,z3⟩:=dK HX.out
 have H4:w2.cell? ⟨gd,0,none⟩=some (.int .i64 d.W)/\w2.cell? ⟨gd,1,none⟩=some (.int .i64 d.H)/\w2.cell? ⟨gd,2,none⟩=some (.int .i64 d.T)/\w2.cell? ⟨gd,3,none⟩=some (.int .i64 d.R):=⟨z0,z1,z2,z3⟩
 have hD:=(Below.refl w2.heap.size w2).drew
 clear z0 z1 z2 z3
 go_region_held3 (fun w'=>w'.cell? ⟨gd,0,none⟩=some (.int .i64 d.W)/\w'.cell? ⟨gd,1,none⟩=some (.int .i64 d.H)/\w'.cell? ⟨gd,2,none⟩=some (.int .i64 d.T)/\w'.cell? ⟨gd,3,none⟩=some (.int .i64 d.R))
  (first|exact H4)
  (first
   | (go_at_call 132;(first|(with_reducible refine (tV g B A n c bs d _ KC.out hn HD.out).mono ?_)|(with_reducible refine (tV g B A n c bs d _ (KC.out.below (Below.refl _ _).drew) hn HD.out).mono ?_));rintro e w3 ⟨ts,A3,c3,rfl,htl,hto,ho,k3,g3⟩;have G3:=Hd (show w2.grownBy w3 (some g) from ⟨g3.os,g3.tape,g3.output,g3.size,g3.block⟩);have O3:=Hd ho.rd;have K3:=Hd k3;have HTL:=Hd htl;have HTO:=Hd hto;have hs3:w2.heap.size<=w3.heap.size:=G3.out.size;have X3:=Hd ((aY G3.out (aG HX.out) (by omega)).trans HX.out);clear H4;have H4:w3.cell? ⟨gd,0,none⟩=some (.int .i64 d.W)/\w3.cell? ⟨gd,1,none⟩=some (.int .i64 d.H)/\w3.cell? ⟨gd,2,none⟩=some (.int .i64 d.T)/\w3.cell? ⟨gd,3,none⟩=some (.int .i64 d.R):=dK X3.out;clear htl hto ho k3 g3)
   | (go_at_call 133;(first|(with_reducible refine (kw d A3 (tiles d) c3 ts _ O3.out HD.out HTL.out (fun j hj=>HTO.out _ (by rw [tT (by rw [HTL.out];exact hj)];exact List.getElem_mem _))).mono ?_)|(with_reducible refine (kw d A3 (tiles d) c3 ts _ (Jj O3.out) HD.out HTL.out (fun j hj=>HTO.out _ (by rw [tT (by rw [HTL.out];exact hj)];exact List.getElem_mem _))).mono ?_));rintro e w4 ⟨A4,c4,rfl,o4,b4⟩;have HS4:=Hd b4;have O4:=Hd o4;clear H4;have H4:w4.cell? ⟨gd,0,none⟩=some (.int .i64 d.W)/\w4.cell? ⟨gd,1,none⟩=some (.int .i64 d.H)/\w4.cell? ⟨gd,2,none⟩=some (.int .i64 d.T)/\w4.cell? ⟨gd,3,none⟩=some (.int .i64 d.R):=dK (aJ b4 X3.out);clear o4 b4))
 all_goals
  obtain ⟨r0,r1,r2,r3⟩:=dK (aJ HS4.out ((aY G3.out (aG HR.out) (by omega)).trans HR.out))
  have HRR:=Hd (aJ HS4.out ((aY G3.out (aG HR.out) (by omega)).trans HR.out))
  obtain ⟨z0,z1,z2,z3⟩:=H4
  have f0:=fun k=>aF HRR.out k
  have f00:=f0 0
  have f01:=f0 1
  have f02:=f0 2
  have f03:=f0 3
  have l1:=aG HRR.out
  have hs4:=HS4.out.size
  clear f0
  go_wp2_with fail
  have hE:=yf (u0 := .int .i64 d.W) (u1 := .int .i64 d.H) (u2 := .int .i64 d.T) (u3 := .int .i64 d.R) HRR.out
  have hC:=Chg.set (k:=3) (Chg.set (k:=2) (Chg.set (k:=1) (Chg.set (k:=0) (Chg.refl w.heap.size (w.heap.size+1) w4) (Nat.le_refl _) (Nat.lt_succ_self _) (.int .i64 d.W)) (Nat.le_refl _) (Nat.lt_succ_self _) (.int .i64 d.H)) (Nat.le_refl _) (Nat.lt_succ_self _) (.int .i64 d.T)) (Nat.le_refl _) (Nat.lt_succ_self _) (.int .i64 d.R)
  refine bodyPost_ret (v := .tuple #[.agg #[.int .i64 d.W,.int .i64 d.H,.int .i64 d.T,.int .i64 d.R],.slice A4 (tiles d) c4]) (aL Tryz.results87 rfl hE Tryz.underlying25 (by kernel_rfl)) rfl ⟨d,ts,A4,c4,rfl,HD.out,HTL.out,HTO.out,?_,?_,?_⟩
  ·exact (O4.out.chg hC (.inr (by omega))).widen (by omega) (by have:=hC.size;omega)
  ·exact ((((K3.out.below HS4.out).setNew hgw _ _).setNew hgw _ _).setNew hgw _ _).setNew hgw _ _
  ·exact aP (aP (aP (aP (bG (aO HG.out G3.out) HS4.out (by omega)) (Nat.le_refl _) _ _) (Nat.le_refl _) _ _) (Nat.le_refl _) _ _) (Nat.le_refl _) _ _
end Go.Proofs.YtignkfhdkcgkgaaGreat
