/- Routing nodes of pins in the reference. -/
import Derived.Test.YtofihjoanjkdmaaGreatHeldW
import Derived.Test.YtofihjoanjkdmaaGreatLayG5
import Derived.Test.YtofihjoanjkdmaaGreatSrs
namespace Go.Proofs.YtofihjoanjkdmaaGreat
set_option maxHeartbeats 8000000
set_option maxRecDepth 100000
open Go.RowKit
theorem pV (d:Dev) (t:Int) (w:World) :
  Calls Tryz.prog 113 #[.agg (dv d),.int .i64 t] w fun e w'=>e = .returned (.int .i64 (lh d t))/\Below w.heap.size w w':=by
 by_cases R:t<=1099511627776
 ·cases ht:bB d t with
  | false =>
   have h:=qz d t w ht R
   rwa [show lh d t=-1 by unfold lh;rw [ht];rfl]
  | true =>
   have h:=iA d t w ht
   rwa [show lh d t=bL d t by unfold lh;rw [if_pos ht]]
 have q:Hid (lh d t=-1):=by
  show _=_
  unfold lh
  rw [if_neg]
  intro h
  obtain ⟨g,h0,h1⟩:=aU.1 h
  have:=fJ g
  omega
 go_enter Tryz.func113,Tryz.ntmps113
 go_wp2_with fail
 refine (fw d _).mono ?_
 rintro e V ⟨rfl,j⟩
 obtain ⟨hcc,I⟩:=bG j
 have u:=Hd (aA (aB (Below.refl _ _) _) j)
 clear j
 cases g:dR d with
 | false =>
  clear g
  go_wp2_with fail
  go_ret
  exact ⟨aL q.out.symm,u.out⟩
 | true =>
  obtain ⟨B,U,J⟩:=lD g
  obtain ⟨Q,G,D,z,_⟩:=ay g
  have K:=fJ g
  clear g B
  have h0:¬t<0:=by omega
  have h1:t≥d.W * d.H:=by omega
  go_wp2_with fail
  go_ret
  exact ⟨aL q.out.symm,u.out⟩
theorem BU (d:Dev) (t p:Int) (w:World) :
  Calls Tryz.prog 206 #[.agg (dv d),.int .i64 t,.int .i64 p] w fun e w'=>e = .returned (.int .i64 (oI d t p))/\Below w.heap.size w w':=by
 have G:Hid (oI d t p=if bB d t=true/\0<=p/\p<jT (bL d t) then t * aV d+p else -1):=rfl
 have z:=Hd (aB (Below.refl w.heap.size w) (.cells (dv d) 36))
 by_cases j:p<0
 ·have q:Hid (oI d t p=-1):=by show _=_;rw [G.out,if_neg];rintro ⟨_,h0,_⟩;omega
  have dp:decide (p<0)=true:=decide_eq_true j
  clear j
  go_enter Tryz.func206,Tryz.ntmps206
  go_wp2_with fail
  go_ret
  exact ⟨aL q.out.symm,z.out⟩
 have dp:decide (p<0)=false:=decide_eq_false j
 cases ht:bB d t with
 | false =>
  have q:Hid (oI d t p=-1):=by show _=_;rw [G.out,if_neg];rintro ⟨h0,_⟩;rw [ht] at h0;cases h0
  have u:Hid (lh d t=-1):=by show _=_;unfold lh;rw [ht];rfl
  have dq:decide (p≥0)=true:=decide_eq_true (by omega)
  have ag:decide (0<=p)=true:=decide_eq_true (by omega)
  clear j ht
  go_enter Tryz.func206,Tryz.ntmps206
  go_wp2_with fail
  refine (pV d t _).mono ?_
  rw [u.out]
  rintro _ w2 ⟨rfl,B⟩
  have g:=Hd (aA z.out B)
  clear B
  go_wp2_with fail
  refine (qR (-1) _).mono ?_
  rw [show jT (-1)=0 from rfl]
  rintro _ V ⟨rfl,rfl⟩
  go_wp2_with fail
  go_ret
  exact ⟨aL q.out.symm,g.out⟩
 | true =>
  have u:Hid (lh d t=bL d t):=by show _=_;unfold lh;rw [if_pos ht]
  obtain ⟨H,J,Y⟩:=aU.1 ht
  have ae:=fJ H
  have hT:=ay H
  have Z:=eP H
  have aj:=pM d t
  have HM:=Hd (jc J (show t<=35 by omega) (show 0<=aV d by omega) Z.2)
  have HT:=Hd ht
  clear ht H
  go_enter Tryz.func206,Tryz.ntmps206
  go_wp2_with fail
  refine (pV d t _).mono ?_
  rw [u.out]
  rintro _ w2 ⟨rfl,B⟩
  have g:=Hd (aA z.out B)
  have U:=B.size
  simp only [World.size_alloc] at U
  obtain ⟨hcc,I⟩:=bG B
  clear B
  generalize bL d t=K at *
  go_wp2_with fail
  refine (qR K _).mono ?_
  generalize jT K=Q at *
  rintro _ V ⟨rfl,rfl⟩
  by_cases D:p<Q
  ·have hh:decide (p≥Q)=false:=by simp;omega
   have q:Hid (oI d t p=t * aV d+p):=by show _=_;rw [G.out,if_pos ⟨HT.out,by omega,D⟩]
   go_wp2_with fail
   refine (eH d _ (by omega) (by omega)).mono ?_
   rintro _ V ⟨rfl,W⟩
   have R:=Hd (aA g.out W)
   have hM:=HM.out
   clear W hcc I
   go_wp2_with fail
   go_ret
   exact ⟨aL q.out.symm,R.out⟩
  have hh:decide (p≥Q)=true:=by simp;omega
  have q:Hid (oI d t p=-1):=by show _=_;rw [G.out,if_neg];rintro ⟨_,_,h1⟩;exact D h1
  go_wp2_with fail
  go_ret
  exact ⟨aL q.out.symm,g.out⟩
def uM (w:World) (b n:Nat) (l:List Int):Prop:=∃vs:Array Value,w.heap[b]?=some (.cells vs 4 (0,0))/\vs.size=n/\∀j,j<n→vs[j]?=some (.bool (decide ((j:Int)∈l)))
theorem uM.made (w:World) (n:Nat):uM (w.alloc (.cells (madeCells #[.bool false] n) 4)) w.heap.size n []:=by
 refine ⟨_,aI w _,size_madeCells _ _,fun j hj=>?_⟩
 rw [←Array.getElem?_toList,toList_madeCells_one,List.getElem?_replicate,if_pos hj]
 rfl
theorem uM.keep {w w':World} {b n:Nat} {l:List Int} (h:uM w b n l) (hk:w'.heap[b]?=w.heap[b]?):uM w' b n l:=by
 obtain ⟨vs,h1,h2⟩:=h
 exact ⟨vs,hk.trans h1,h2⟩
theorem uM.cell {w:World} {b n j:Nat} {l:List Int} (h:uM w b n l) (hj:j<n):w.cell? ⟨b,j,none⟩=some (.bool (decide ((j:Int)∈l)))/\w.frozen? ⟨b,j,none⟩=false:=by
 obtain ⟨vs,h1,_,h2⟩:=h
 exact ⟨aF h1 (h2 j hj),aX h1 j⟩
theorem uM.set {w:World} {b n k:Nat} {l:List Int} (h:uM w b n l) (hk:k<n):uM (w.setCell ⟨b,k,none⟩ (.bool true)) b n (l++[(k:Int)]):=by
 obtain ⟨vs,h1,h2,h3⟩:=h
 refine ⟨_,iK h1 k _,by simp [h2],fun j hj=>?_⟩
 rw [Array.getElem?_setIfInBounds]
 by_cases e:k=j
 ·subst e
  rw [if_pos rfl,if_pos (by omega)]
  simp
 rw [if_neg e,h3 j hj]
 have:(j:Int)≠(k:Int):=by omega
 simp [this]
abbrev rq (b n:Nat) (l:List Int):Pc := .own b fun w=>uM w b n l
theorem Dm (w:World) (b k:Nat) (v:Value):w.grownBy (w.setCell ⟨b,k,none⟩ v) (some b) :=
 ⟨rfl,rfl,rfl,by simp [World.setCell],fun i _ hn=>Below.heap_setCell w ⟨b,k,none⟩ v i fun e=>hn (by rw [e])⟩
theorem aJ.pushRowB {W w:World} {ps:List Pc} (h:aJ W w ps) (n:Nat):aJ W (w.alloc (.cells (madeCells #[.bool false] n) 4)) (ps++[rq w.heap.size n []]) :=
 h.push (aB (Below.refl _ _) _) (G:=[w.heap.size]) ⟨rfl,by simp,uM.made w n,fun _ _ e h=>h.keep e⟩ (by simp) (by simp)
theorem aJ.truth {W w:World} {ps:List Pc} (S:aJ W w ps) (i:Nat) {b n k:Nat} {l:List Int} (hi:ps[i]?=some (rq b n l)) (hk:k<n) :
  w.cell? ⟨b,k,none⟩=some (.bool (decide ((k:Int)∈l)))/\w.frozen? ⟨b,k,none⟩=false/\(W.heap.size<=b/\b<w.heap.size)/\aJ W (w.setCell ⟨b,k,none⟩ (.bool true)) (ps.set i (rq b n (l++[(k:Int)]))):=by
 obtain ⟨h1,h2,h3⟩:=S.own i hi
 exact ⟨(h1.cell hk).1,(h1.cell hk).2,⟨h2,h3⟩,S.own_upd i hi (Dm w b k _) (h1.set hk) (fun _ _ e h=>h.keep e)⟩
theorem Dn:(Tryz.prog.info? 4).map (fun i=>(i.zero,i.size,i.bytes))=some (some (.bool false),1,1):=by kernel_rfl
theorem ni (n:Nat) (hn:n<=1048576) (w:World):(Instr.makeSlice 160 (.int .i64 (n:Int)) (.int .i64 (n:Int))).run Tryz.prog w = .ok (.slice (some ⟨w.heap.size,0,none⟩) n n) (w.alloc (.cells (madeCells #[.bool false] n) 4)):=by
 obtain ⟨u,hi,j,g,q⟩:=info_parts Dn
 have h:=bv (P:=Tryz.prog) 160 4 u _ Tryz.underlying160 hi j .i64 .i64 n n (Nat.le_refl _) (by rw [q];omega) (by omega) w
 rw [g,Nat.mul_one] at h
 exact h
theorem nk (k:Int) (w:World) :
  Calls Tryz.prog 114 #[.int .i64 k] w fun e w'=>e = .returned (.int .i64 (gG k))/\w=w':=by
 by_cases h0:k=0
 ·subst h0
  go_enter Tryz.func114,Tryz.ntmps114
  go_wp2_with fail
  go_ret
  exact ⟨rfl,rfl⟩
 by_cases h1:k=1
 ·subst h1
  go_enter Tryz.func114,Tryz.ntmps114
  go_wp2_with fail
  go_ret
  exact ⟨rfl,rfl⟩
 by_cases h2:k=2
 ·subst h2
  go_enter Tryz.func114,Tryz.ntmps114
  go_wp2_with fail
  go_ret
  exact ⟨rfl,rfl⟩
 by_cases h3:k=3
 ·subst h3
  go_enter Tryz.func114,Tryz.ntmps114
  go_wp2_with fail
  go_ret
  exact ⟨rfl,rfl⟩
 have g:Hid (gG k=-1):=by show _=_;unfold gG;rw [if_neg (by omega),if_neg h2,if_neg h3]
 have z:(k==0)=false:=by simp [h0]
 have q:(k==1)=false:=by simp [h1]
 have j:(k==2)=false:=by simp [h2]
 have u:(k==3)=false:=by simp [h3]
 clear h0 h1 h2 h3
 go_enter Tryz.func114,Tryz.ntmps114
 go_wp2_with fail
 go_ret
 exact ⟨aL g.out.symm,rfl⟩
theorem qI (bs:List Blk) (BA:Option Addr) (bn bc:Nat) (w:World) (I:RdC w w.heap.size (aa bs) (.slice BA bn bc)) (hn:bn<=1048576) :
  Calls Tryz.prog 39 #[.slice BA bn bc] w fun e w'=>∃A c,e = .returned (.slice A bn c)/\Own w.heap.size w' A bn c (bs.map Blk.kind)/\Below w.heap.size w w':=by
 have B:=I.blkN
 obtain ⟨D,HB⟩:=hd2 B I
 clear I B
 go_enter Tryz.func39,Tryz.ntmps39
 go_wp2_with fail
 go_loopw [3,4] (fun v i wr=>∃(k:Nat) (A:Option Addr) (c:Nat),k<=bn/\i = .int .i64 (k:Int)/\v = .slice A k c/\aJ w wr [.cel (aH ((bs.take k).map Blk.kind)) (.slice A k c)]) (fun _ i _=>bn - (intOf i).toNat)
 ·exact ⟨0,_,_,by omega,rfl,rfl,(aJ.refl w).pushNew 3 1⟩
 obtain ⟨k,A1,J,hk,rfl,rfl,hs⟩:=hrel
 have G:=Hd hs
 clear hs
 by_cases Q:k<bn
 ·have R:=dT (by omega:k<bn)
  have q:k<bs.length:=by rw [D.out];exact Q
  obtain ⟨bb,ob,EA,en,ec,rfl,z,U,c1,c2,Z⟩:=HB.out.blk (k:=k) q
  have j:=G.out.bel
  have W:=aK j z
  rw [←j.cell (p:=⟨bb,ob+k * 3,none⟩) z] at U
  have g:=Hd (show (bs.take (k+1)).map Blk.kind=(bs.take k).map Blk.kind++[(bs[k]?.getD Blk.zero).kind] from by rw [mr q,List.map_append];rfl)
  clear q j Z c1 c2
  generalize bs[k]?.getD Blk.zero=b at *
  obtain ⟨kd,it,es⟩:=b
  simp only at U g
  obtain ⟨i0,i1⟩:=ib (by omega:k<bn)
  go_wp2_with (at_builtin;refine gF rfl _ _ rfl _ (G.out.alloc _) 0 A1 k J ((bs.take k).map Blk.kind) kd _ (0,0) rfl rfl rfl (aI _ _) (by omega) ?_;intro g9 Y w9 V K;have H:=Hd V;clear V K)
  go_roundw
  ·exact ⟨k+1,_,_,by omega,by go_num,rfl,by rw [g.out];exact H.out⟩
  simp [intOf];omega
 have u:k=bn:=by omega
 have R:=dF (by omega:bn<=k)
 have g:Hid (bs.take k=bs):=by show _=_;rw [u];exact List.take_of_length_le (by rw [D.out];exact Nat.le_refl _)
 rw [g.out] at G
 subst u
 go_wp2_with fail
 go_ret
 exact ⟨_,_,rfl,G.out.owned 0 rfl,G.out.bel⟩
theorem qJ (d:Dev) (kinds place:List Int) (KA PA:Option Addr) (kn kc pn pc:Nat) (w:World) (hk:dP w KA kn kinds) (hp:dP w PA pn place) (_:pn<=pc) (_:pc<=1048576) :
  Calls Tryz.prog 38 #[.agg (dv d),.slice KA kn kc,.slice PA pn pc] w fun e w'=>e = .returned (.bool (tb (eG d kinds place)))/\Below w.heap.size w w':=by
 have ai:=Hd (aB (Below.refl w.heap.size w) (.cells (dv d) 36))
 have u:=Hd (aI w (.cells (dv d) 36))
 obtain ⟨HK,HP⟩:=hd2 hk hp
 clear hk hp
 cases g:dR d with
 | false =>
  have H:Hid (¬eG d kinds place):=fun h=>by rw [h.dev] at g;cases g
  have I:=Hd g
  clear g
  go_enter Tryz.func38,Tryz.ntmps38
  go_upto_region 1 with fail
  generalize w.alloc (.cells (dv d) 36)=W0 at *
  obtain ⟨x0,U,Q,Y,lx⟩:=cO (u.out)
  go_wp2_with fail
  refine (fw d _).mono ?_
  rw [I.out]
  rintro _ w1 ⟨rfl,G⟩
  have q:=Hd (aA ai.out G)
  have Z:=Hd (aD G u.out)
  clear G x0 U Q Y lx
  go_wp2_with fail
  go_ret
  exact ⟨aO H.out,q.out⟩
 | true =>
  have I:=Hd g
  obtain ⟨hN,bo,bl⟩:=lD g
  have bN:=ay g
  clear g
  by_cases ar:kn<=64
  ·have a8:decide ((64:Int)<(kn:Int))=false:=decide_eq_false (by omega)
   by_cases am:pn=kn
   ·subst am
    have dn:((pn:Int) != (pn:Int))=false:=by simp
    have a2:=ni (oM d) (by omega)
    go_enter Tryz.func38,Tryz.ntmps38
    go_upto_region 1 with fail
    generalize w.alloc (.cells (dv d) 36)=W0 at *
    obtain ⟨x0,U,Q,Y,lx⟩:=cO (u.out)
    go_wp2_with fail
    refine (fw d _).mono ?_
    rw [I.out]
    rintro _ w1 ⟨rfl,G⟩
    have q:=Hd (aA ai.out G)
    have Z:=Hd (aD G u.out)
    clear G x0 U Q Y lx
    have a1:=Hd ((aJ.refl w1).pushRowB (oM d))
    obtain ⟨x0,U,Q,Y,lx⟩:=cO (Z.out)
    go_wp2_with fail
    clear x0 U Q Y lx a2 hN
    go_loopw [8] (fun i wr=>∃k:Nat,k<=pn/\i = .int .i64 (k:Int)/\aJ w1 wr [rq w1.heap.size (oM d) (place.take k)]/\(∀j,j<k→bB d (place[j]?.getD 0)=true/\bL d (place[j]?.getD 0)=gG (kinds[j]?.getD 0))/\(place.take k).Nodup) (fun i _=>pn - (intOf i).toNat)
    ·exact ⟨0,by omega,rfl,a1.out,fun j hj=>by omega,by simp⟩
    obtain ⟨k,hk,rfl,hs,ak,aH⟩:=hrel
    obtain ⟨HS,R,ad⟩:=hd3 hs ak aH
    have ah:=Hd (aA q.out hs.bel)
    clear hs ak aH
    by_cases aj:k<pn
    ·have bd:=dT (by omega:k<pn)
     obtain ⟨bp,op,aR,ag,aG⟩:=HP.out.2 (by omega)
     obtain ⟨bk,ok,aW,aS,aQ⟩:=HK.out.2 (by omega)
     obtain ⟨bj,bm⟩:=hd2 aR aW
     have aT:k<place.length:=by rw [HP.out.1];exact aj
     have aq:=Hd (bU (z:=0) aT)
     have D:Hid (¬(bB d (place[k]?.getD 0)=true/\bL d (place[k]?.getD 0)=gG (kinds[k]?.getD 0))→¬eG d kinds place):=fun h h'=>h (h'.tile k (by rw [HK.out.1];exact aj))
     have V:Hid (place[k]?.getD 0∈place.take k→¬eG d kinds place):=fun h h'=>by
      have h1:=h'.once
      rw [←List.take_append_drop (k+1) place,aq.out] at h1
      exact (dZ.1 (List.nodup_append.1 h1).1).2 h
     have HG:Hid (bB d (place[k]?.getD 0)=true/\bL d (place[k]?.getD 0)=gG (kinds[k]?.getD 0)→∀j,j<k+1→bB d (place[j]?.getD 0)=true/\bL d (place[j]?.getD 0)=gG (kinds[j]?.getD 0)):=fun h=>bW R.out h
     have aM:Hid (∀v,Below w.heap.size w v→v.cell? ⟨bp,op+k,none⟩=some (.int .i64 (place[k]?.getD 0))):=fun v hv=>(hv.cell (p:=⟨bp,op+k,none⟩) ag).trans (aG k aj)
     have bg:Hid (∀v,Below w.heap.size w v→v.cell? ⟨bk,ok+k,none⟩=some (.int .i64 (kinds[k]?.getD 0))):=fun v hv=>(hv.cell (p:=⟨bk,ok+k,none⟩) aS).trans (aQ k aj)
     clear aG aQ aT aR aW
     obtain rfl:=bj.out
     obtain rfl:=bm.out
     generalize place[k]?.getD 0=t at *
     generalize kinds[k]?.getD 0=kd at *
     have a7:=vO kd
     obtain ⟨bt,W⟩:∃b,gG kd=b:=⟨_,rfl⟩
     rw [W] at a7 D HG
     have ap:=Hd W
     clear W
     obtain ⟨i0,i1⟩:=ib (by omega:k<pn)
     have cp:=aM.out _ ah.out
     have aL:=aK ah.out ag
     obtain ⟨x0,U,Q,Y,lx⟩:=cO (aD HS.out.bel Z.out)
     have al:=Hd (fun (x:Sub wr)=>pV d t x.v)
     obtain ⟨K,av⟩:∃K,lh d t=K:=⟨_,rfl⟩
     have aF:=Hd av
     rw [av] at al
     clear av
     go_upto_region 7 with fail
     have aZ:=aY wr
     have a6:=aP wr
     refine wpB wr ?_
     repeat (go_big_quiet_step ((first
      | (go_at_call 113;with_reducible exact aN (al.out _)))))
     refine wpQuiet_nil ?_
     rintro wq ⟨⟨w5,hD⟩,hw⟩
     replace hw:wq=w5:=hw
     subst hw
     clear aZ a6
     have bb:=Hd (HS.out.below hD)
     have B:=Hd (aA ah.out hD)
     clear hD x0 U Q Y lx cp aL
     have cp:=aM.out _ B.out
     have ck:=bg.out _ B.out
     have aL:=aK B.out ag
     have bK:=aK B.out aS
     cases ht:bB d t with
     | false =>
      have hK:K=-1:=by rw [←aF.out];unfold lh;rw [ht];rfl
      have H:=Hd (D.out (fun h=>by rw [h.1] at ht;cases ht))
      subst hK
      clear ht HG D V
      go_wp2_with fail
      go_ret
      exact ⟨aO H.out,B.out⟩
     | true =>
      have hK:K=bL d t:=by rw [←aF.out];unfold lh;rw [if_pos ht]
      have a3:=xD d t
      obtain ⟨hd,h0,h1⟩:=aU.1 ht
      obtain ⟨hN,bo,bl⟩:=lD hd
      rw [hN] at h1
      obtain ⟨HT,bI⟩:=hd2 ht hK
      rw [←hK] at a3 D HG
      clear ht hd hN hK
      obtain ⟨T,rfl⟩:∃T:Nat,t=(T:Int):=⟨t.toNat,by omega⟩
      have hT:T<oM d:=by omega
      have k0:decide (K<0)=false:=decide_eq_false (by omega)
      by_cases J:K=bt
      ·have dK:(K != bt)=false:=by simp [J]
       obtain ⟨q1,q2,q3,q4⟩:=bb.out.truth 0 (k:=T) rfl hT
       have a9:=Hd q4
       have bM:bp≠w1.heap.size:=by have:=aK q.out ag;omega
       have iT:(T:Int)<(oM d:Int):=by omega
       have bF:(0:Int)<=(T:Int):=by omega
       have bn:=Hd (HG.out ⟨HT.out,J⟩)
       clear q4 HG D J
       by_cases hm:(T:Int)∈place.take k
       ·have H:=Hd (V.out hm)
        rw [decide_eq_true hm] at q1
        clear V hm
        go_wp2_with fail
        refine (nk kd _).mono ?_
        rw [ap.out]
        rintro _ w7 ⟨rfl,rfl⟩
        go_wp2_with fail
        go_ret
        exact ⟨aO H.out,B.out⟩
       have HM:=Hd hm
       rw [decide_eq_false hm] at q1
       clear V hm
       go_wp2_with fail
       refine (nk kd _).mono ?_
       rw [ap.out]
       rintro _ w7 ⟨rfl,rfl⟩
       go_wp2_with fail
       go_roundw
       ·exact ⟨k+1,by omega,by go_num,by rw [aq.out];exact a9.out,bn.out,by rw [aq.out,dZ];exact ⟨ad.out,HM.out⟩⟩
       simp [intOf];omega
      have dK:(K != bt)=true:=by simp [J]
      have H:=Hd (D.out (fun h=>J h.2))
      clear HG D V J
      go_wp2_with fail
      refine (nk kd _).mono ?_
      rw [ap.out]
      rintro _ w7 ⟨rfl,rfl⟩
      go_wp2_with fail
      go_ret
      exact ⟨aO H.out,B.out⟩
    have ao:k=pn:=by omega
    have bd:=dF (by omega:pn<=k)
    have H:Hid (eG d kinds place):=⟨I.out,by rw [HK.out.1];exact ar,by rw [HP.out.1,HK.out.1],fun j hj=>R.out j (by rw [ao,←HK.out.1];exact hj),by
     have h:=ad.out
     rwa [ao,List.take_of_length_le (by rw [HP.out.1];exact Nat.le_refl _)] at h⟩
    clear R ad ao
    go_wp2_with fail
    go_ret
    exact ⟨dU H.out,ah.out⟩
   have dn:((pn:Int) != (kn:Int))=true:=by simp;omega
   have H:Hid (¬eG d kinds place):=fun h=>am (by rw [←HP.out.1,←HK.out.1];exact h.same)
   clear am hN
   go_enter Tryz.func38,Tryz.ntmps38
   go_upto_region 1 with fail
   generalize w.alloc (.cells (dv d) 36)=W0 at *
   obtain ⟨x0,U,Q,Y,lx⟩:=cO (u.out)
   go_wp2_with fail
   refine (fw d _).mono ?_
   rw [I.out]
   rintro _ w1 ⟨rfl,G⟩
   have q:=Hd (aA ai.out G)
   have Z:=Hd (aD G u.out)
   clear G x0 U Q Y lx
   go_wp2_with fail
   go_ret
   exact ⟨aO H.out,q.out⟩
  have a8:decide ((64:Int)<(kn:Int))=true:=decide_eq_true (by omega)
  have H:Hid (¬eG d kinds place):=fun h=>ar (by rw [←HK.out.1];exact h.len)
  clear ar hN
  go_enter Tryz.func38,Tryz.ntmps38
  go_upto_region 1 with fail
  generalize w.alloc (.cells (dv d) 36)=W0 at *
  obtain ⟨x0,U,Q,Y,lx⟩:=cO (u.out)
  go_wp2_with fail
  refine (fw d _).mono ?_
  rw [I.out]
  rintro _ w1 ⟨rfl,G⟩
  have q:=Hd (aA ai.out G)
  have Z:=Hd (aD G u.out)
  clear G x0 U Q Y lx
  go_wp2_with fail
  go_ret
  exact ⟨aO H.out,q.out⟩
theorem yM (d:Dev) (src:Int) (ks:List Int) (r:Rou) (KA NA FA:Option Addr) (kn kc H nc fn fc:Nat) (w:World) (hk:dP w KA kn ks) (hn:dP w NA H r.nodes) (hf:dP w FA fn r.from_) (ci:kn<=1048576) (dm:H<=1048576) (dy:fn<=1048576) (cq:∀s∈ks,mP s) :
  Calls Tryz.prog 118 #[.agg (dv d),.int .i64 src,.slice KA kn kc,.agg #[.slice NA H nc,.slice FA fn fc]] w fun e w'=>e = .returned (.bool (tb (dB d src ks r)))/\Below w.heap.size w w':=by
 obtain ⟨bv,HN,b7,dp⟩:=hd4 hk hn hf cq
 clear hk hn hf cq
 have ca:=Hd (aB (aB (Below.refl w.heap.size w) (.cells (dv d) 36)) (.cells #[.slice NA H nc,.slice FA fn fc] 114))
 have Z:=aW (.cells #[.slice NA H nc,.slice FA fn fc] 114) (aI w (.cells (dv d) 36))
 have V:=aI (w.alloc (.cells (dv d) 36)) (.cells #[.slice NA H nc,.slice FA fn fc] 114)
 simp only [World.size_alloc] at V
 obtain ⟨aX,aS⟩:=hd2 Z V
 clear Z V
 cases a9:inR (H:Int) 1 (ik d) with
 | false =>
  have HR:Hid (¬dB d src ks r):=fun h=>by
   have h1:=h.len
   rw [HN.out.1] at h1
   rw [aR.2 (by unfold ik;rw [if_pos h.dev];omega)] at a9
   cases a9
  have bH:=Hd a9
  clear a9
  go_enter Tryz.func118,Tryz.ntmps118
  go_upto_region 1 with fail
  generalize (w.alloc (.cells (dv d) 36)).alloc (.cells #[.slice NA H nc,.slice FA fn fc] 114)=W9 at *
  have Z:=aX.out
  have V:=aS.out
  obtain ⟨x0,x1,x2,x3⟩:=cs4 Z
  obtain ⟨y0,y1⟩:=cs2 V
  have R:=aC Z
  have ly:=aC V
  clear Z V
  have br:=Hd (fun (x:Sub W9)=>gP d x.v)
  have av:=Hd (fun (x:Sub W9)=>(by have h:=aj (H:Int) 1 (ik d) x.v;rwa [bH.out] at h:Calls Tryz.prog 83 #[.int .i64 (H:Int),.int .i64 1,.int .i64 (ik d)] x.v fun e w'=>e = .returned (.bool false)/\x.v=w'))
  have G:=aY W9
  have W:=aP W9
  refine wpB W9 ?_
  repeat (go_big_quiet_step ((first
   | (go_at_call 116;with_reducible exact aN (br.out _))
   | (go_at_call 83;with_reducible exact aQ (av.out _)))))
  refine wpQuiet_nil ?_
  rintro wq ⟨⟨w5,B⟩,Y⟩
  replace Y:wq=w5:=Y
  subst Y
  clear G W
  have bw:=Hd B
  have HD:=Hd (aA ca.out B)
  clear B x0 x1 x2 x3 y0 y1 R ly
  go_wp2_with fail
  go_ret
  exact ⟨aO HR.out,HD.out⟩
 | true =>
  have bH:=Hd a9
  have bI:=aR.1 a9
  have bg:dR d=true:=by
   cases hd:dR d with
   | true=>rfl
   | false=>unfold ik at bI;rw [hd] at bI;simp at bI;omega
  have b8:=Hd bg
  have cW:=fZ bg
  have hT:=ay bg
  have cV:0<=d.T:=by omega
  have c7:d.T<=1099511627776:=by omega
  obtain ⟨N,hN⟩:∃N:Nat,ik d=(N:Int):=⟨(ik d).toNat,by unfold ik;rw [if_pos bg];omega⟩
  have dA:N<=828:=by have h:=hN;unfold ik at h;rw [if_pos bg] at h;omega
  have bd:=Hd hN
  rw [hN] at bI
  clear a9 bg hN cW hT
  by_cases c3:fn=H
  ·subst c3
   obtain ⟨H,rfl⟩:∃x,x=fn:=⟨fn,rfl⟩
   have d3:((H:Int) != (H:Int))=false:=by simp
   obtain ⟨bn,u,rfl,bF,cJ⟩:=HN.out.2 (by omega)
   obtain ⟨bf,I,rfl,cz,cm⟩:=b7.out.2 (by omega)
   have bj:Hid (∀k,k<H→∀v,Below w.heap.size w v→v.cell? ⟨bn,u+k,none⟩=some (.int .i64 (r.nodes[k]?.getD 0))):=fun k hk v J=>(J.cell (p:=⟨bn,u+k,none⟩) bF).trans (cJ k hk)
   have ct:Hid (∀k,k<H→∀v,Below w.heap.size w v→v.cell? ⟨bf,I+k,none⟩=some (.int .i64 (r.from_[k]?.getD 0))):=fun k hk v J=>(J.cell (p:=⟨bf,I+k,none⟩) cz).trans (cm k hk)
   clear cJ cm
   go_enter Tryz.func118,Tryz.ntmps118
   go_upto_region 1 with fail
   generalize (w.alloc (.cells (dv d) 36)).alloc (.cells #[.slice (some ⟨bn,u,none⟩) H nc,.slice (some ⟨bf,I,none⟩) H fc] 114)=W9 at *
   have Z:=aX.out
   have V:=aS.out
   obtain ⟨x0,x1,x2,x3⟩:=cs4 Z
   obtain ⟨y0,y1⟩:=cs2 V
   have R:=aC Z
   have ly:=aC V
   clear Z V
   have br:=Hd (fun (x:Sub W9)=>gP d x.v)
   have av:=Hd (fun (x:Sub W9)=>(by have h:=aj (H:Int) 1 (ik d) x.v;rwa [bH.out] at h:Calls Tryz.prog 83 #[.int .i64 (H:Int),.int .i64 1,.int .i64 (ik d)] x.v fun e w'=>e = .returned (.bool true)/\x.v=w'))
   have G:=aY W9
   have W:=aP W9
   refine wpB W9 ?_
   repeat (go_big_quiet_step ((first
    | (go_at_call 116;with_reducible exact aN (br.out _))
    | (go_at_call 83;with_reducible exact aQ (av.out _)))))
   refine wpQuiet_nil ?_
   rintro wq ⟨⟨w5,B⟩,Y⟩
   replace Y:wq=w5:=Y
   subst Y
   clear G W
   have bw:=Hd B
   have HD:=Hd (aA ca.out B)
   clear B x0 x1 x2 x3 y0 y1 R ly
   have Z:=aD bw.out aX.out
   have V:=aD bw.out aS.out
   obtain ⟨x0,x1,x2,x3⟩:=cs4 Z
   obtain ⟨y0,y1⟩:=cs2 V
   have R:=aC Z
   have ly:=aC V
   clear Z V
   go_wp2_with fail
   refine (gP d _).mono ?_
   rw [bd.out]
   rintro _ wz ⟨rfl,bz⟩
   have aZ:=Hd (aA bw.out bz)
   have de:=Hd (aA HD.out bz)
   clear bz x0 x1 x2 x3 y0 y1 R ly HD
   have HD:=de
   have cX:=ni N (by omega)
   have cT:=Hd ((aJ.refl wz).pushRowB N)
   go_wp2_with fail
   clear cX
   go_loopw [10] (fun i wr=>∃k:Nat,k<=H/\i = .int .i64 (k:Int)/\aJ wz wr [rq wz.heap.size N (r.nodes.take k)]/\(∀j,j<k→bQ d (r.nodes[j]?.getD 0)=true/\(0<j→(0<=r.from_[j]?.getD 0/\r.from_[j]?.getD 0<(j:Int))/\r.nodes[(r.from_[j]?.getD 0).toNat]?.getD 0∈fe d (r.nodes[j]?.getD 0))/\(r.nodes[j]?.getD 0 % aV d<5→r.nodes[j]?.getD 0∈ks))/\(r.nodes.take k).Nodup/\(0<k→(r.nodes[0]?.getD 0=src/\r.from_[0]?.getD 0=0/\(src % aV d=5∨src % aV d=6)))) (fun i _=>H - (intOf i).toNat)
   ·exact ⟨0,by omega,rfl,cT.out,fun j hj=>by omega,by simp,fun h=>by omega⟩
   obtain ⟨k,hk,rfl,hs,bS,cl,cL⟩:=hrel
   obtain ⟨HS,ax,bh,cb⟩:=hd4 hs bS cl cL
   have az:=Hd (aA HD.out hs.bel)
   clear hs bS cl cL
   have Z:=aD (aA aZ.out HS.out.bel) aX.out
   have V:=aD (aA aZ.out HS.out.bel) aS.out
   obtain ⟨x0,x1,x2,x3⟩:=cs4 Z
   obtain ⟨y0,y1⟩:=cs2 V
   have R:=aC Z
   have ly:=aC V
   clear Z V
   by_cases bm:k<H
   ·have db:=dT (by omega:k<H)
    have a7:k<r.nodes.length:=by rw [HN.out.1];exact bm
    have cn:=bj.out k bm _ az.out
    have Q:=aK az.out bF
    have aF:=Hd (bU (z:=0) a7)
    have cI:dB d src ks r→bQ d (r.nodes[k]?.getD 0)=true/\r.nodes[k]?.getD 0∉r.nodes.take k/\(0<k→(0<=r.from_[k]?.getD 0/\r.from_[k]?.getD 0<(k:Int))/\r.nodes[(r.from_[k]?.getD 0).toNat]?.getD 0∈fe d (r.nodes[k]?.getD 0))/\(r.nodes[k]?.getD 0 % aV d<5→r.nodes[k]?.getD 0∈ks):=fun h=>by
     refine ⟨?_,?_,fun h0=>h.step k h0 a7,?_⟩
     ·rw [List.getElem?_eq_getElem a7];exact h.node _ (List.getElem_mem a7)
     ·have h1:=h.once
      rw [←List.take_append_drop (k+1) r.nodes,aF.out] at h1
      exact (dZ.1 (List.nodup_append.1 h1).1).2
     rw [List.getElem?_eq_getElem a7];exact h.pins _ (List.getElem_mem a7)
    have hg:bQ d (r.nodes[k]?.getD 0)=true/\(0<k→(0<=r.from_[k]?.getD 0/\r.from_[k]?.getD 0<(k:Int))/\r.nodes[(r.from_[k]?.getD 0).toNat]?.getD 0∈fe d (r.nodes[k]?.getD 0))/\(r.nodes[k]?.getD 0 % aV d<5→r.nodes[k]?.getD 0∈ks)→∀j,j<k+1→bQ d (r.nodes[j]?.getD 0)=true/\(0<j→(0<=r.from_[j]?.getD 0/\r.from_[j]?.getD 0<(j:Int))/\r.nodes[(r.from_[j]?.getD 0).toNat]?.getD 0∈fe d (r.nodes[j]?.getD 0))/\(r.nodes[j]?.getD 0 % aV d<5→r.nodes[j]?.getD 0∈ks):=fun h=>bW ax.out h
    obtain ⟨D,HG⟩:=hd2 cI hg
    clear cI hg a7
    obtain ⟨n,hn⟩:∃n,r.nodes[k]?.getD 0=n:=⟨_,rfl⟩
    rw [hn] at cn aF D HG
    have bL:=Hd hn
    clear hn
    obtain ⟨i0,i1⟩:=ib (by omega:k<H)
    have aM:=fun (x:Sub wr)=>iy d n x.v
    cases aH:bQ d n with
    | false =>
     have HR:Hid (¬dB d src ks r):=fun h=>by have:=(D.out h).1;rw [this] at aH;cases aH
     rw [aH] at aM
     have bb:=Hd aM
     clear aM aH HG D
     go_upto_region 7 with fail
     have G:=aY wr
     have W:=aP wr
     refine wpB wr ?_
     repeat (go_big_quiet_step ((first
      | (go_at_call 207;with_reducible exact aN (bb.out _)))))
     refine wpQuiet_nil ?_
     rintro wq ⟨⟨w5,B⟩,Y⟩
     replace Y:wq=w5:=Y
     subst Y
     clear G W
     have bl:=Hd (aA az.out B)
     clear B x0 x1 x2 x3 y0 y1 R ly cn Q
     go_wp2_with fail
     go_ret
     exact ⟨aO HR.out,bl.out⟩
    | true =>
     have hX:=mq.1 (show fP d n=true from by unfold bQ at aH;rw [Bool.and_eq_true] at aH;exact aH.1)
     rw [bd.out] at hX
     rw [aH] at aM
     obtain ⟨bb,cc⟩:=hd2 aM aH
     clear aM aH
     obtain ⟨X,rfl⟩:∃X:Nat,n=(X:Int):=⟨n.toNat,by omega⟩
     have bR:X<N:=by omega
     obtain ⟨cC,c0⟩:=ib (by omega:X<N)
     obtain ⟨q1,q2,⟨bP,q3⟩,q4⟩:=HS.out.truth 0 (k:=X) rfl bR
     clear q4
     by_cases hm:(X:Int)∈r.nodes.take k
     ·have HR:Hid (¬dB d src ks r):=fun h=>(D.out h).2.1 hm
      rw [decide_eq_true hm] at q1
      clear HG D hm
      go_upto_region 7 with fail
      have G:=aY wr
      have W:=aP wr
      refine wpB wr ?_
      repeat (go_big_quiet_step ((first
       | (go_at_call 207;with_reducible exact aN (bb.out _)))))
      refine wpQuiet_nil ?_
      rintro wq ⟨⟨w5,B⟩,Y⟩
      replace Y:wq=w5:=Y
      subst Y
      clear G W
      have bl:=Hd (aA az.out B)
      clear B x0 x1 x2 x3 y0 y1 R ly cn Q q1 q2 q3
      go_wp2_with fail
      go_ret
      exact ⟨aO HR.out,bl.out⟩
     rw [decide_eq_false hm] at q1
     have HM:=Hd hm
     clear hm
     go_upto_region 7 with fail
     have G:=aY wr
     have W:=aP wr
     refine wpB wr ?_
     repeat (go_big_quiet_step ((first
      | (go_at_call 207;with_reducible exact aN (bb.out _)))))
     refine wpQuiet_nil ?_
     rintro wq ⟨⟨w5,B⟩,Y⟩
     replace Y:wq=w5:=Y
     subst Y
     clear G W
     have b6:=Hd (HS.out.below B)
     have bl:=Hd (aA az.out B)
     clear B x0 x1 x2 x3 y0 y1 R ly cn Q q1 q2 q3 bP
     obtain ⟨q1,q2,⟨bP,q3⟩,q4⟩:=b6.out.truth 0 (k:=X) rfl bR
     have bM:=Hd q4
     have hz:=aZ.out.size
     have dK:=aC aX.out
     have dE:=aC aS.out
     clear q4
     have cn:=bj.out k bm _ bl.out
     have Q:=aK bl.out bF
     rw [bL.out] at cn
     have Z:=aD (aA aZ.out b6.out.bel) aX.out
     have V:=aD (aA aZ.out b6.out.bel) aS.out
     obtain ⟨x0,x1,x2,x3⟩:=cs4 Z
     obtain ⟨y0,y1⟩:=cs2 V
     have R:=aC Z
     have ly:=aC V
     clear Z V
     go_upto_region 10 with fail
     clear x0 x1 x2 x3 y0 y1 R ly cn Q q1 q2 q3 bP
     generalize c2:wq.setCell ⟨wz.heap.size,X,none⟩ (.bool true)=W6 at *
     clear c2
     have cu:=Hd (aA HD.out bM.out.bel)
     have cn:=bj.out k bm _ cu.out
     have Q:=aK cu.out bF
     rw [bL.out] at cn
     have Z:=aD (aA aZ.out bM.out.bel) aX.out
     have V:=aD (aA aZ.out bM.out.bel) aS.out
     obtain ⟨x0,x1,x2,x3⟩:=cs4 Z
     obtain ⟨y0,y1⟩:=cs2 V
     have R:=aC Z
     have ly:=aC V
     clear Z V
     have cj:=eP b8.out
     obtain ⟨p,hp⟩:∃p,aV d=p:=⟨_,rfl⟩
     have bx:=fun (x:Sub W6)=>eH d x.v cV c7
     rw [hp] at bx cj
     obtain ⟨cw,bE⟩:=hd2 bx hp
     have e1:(X:Int).tmod p=(X:Int) % p:=Int.tmod_eq_emod_of_nonneg cC
     have e2:¬p=0:=by omega
     have du:0<=(X:Int) % p:=Int.emod_nonneg _ e2
     have dH:(X:Int) % p<p:=Int.emod_lt_of_pos _ (by omega)
     have e3:IntKind.i64.wrap ((X:Int) % p)=(X:Int) % p:=IntWalk.i64_in _ (by omega)
     clear bx hp
     have G:=aY W6
     have W:=aP W6
     refine wpB W6 ?_
     repeat (go_big_quiet_step ((first
      | (go_at_call 68;with_reducible exact aN (cw.out _)))))
     refine wpQuiet_nil ?_
     rintro wq ⟨⟨w5,B⟩,Y⟩
     replace Y:wq=w5:=Y
     subst Y
     clear G W
     have aw:=Hd (bM.out.below B)
     have ar:=Hd (aA HD.out aw.out.bel)
     clear B x0 x1 x2 x3 y0 y1 R ly cn Q e1 e2 e3
     obtain ⟨W7,rfl⟩:∃x,x=wq:=⟨wq,rfl⟩
     have Q:=aK ar.out bF
     have aG:=aK ar.out cz
     have Z:=aD (aA aZ.out aw.out.bel) aX.out
     have V:=aD (aA aZ.out aw.out.bel) aS.out
     obtain ⟨x0,x1,x2,x3⟩:=cs4 Z
     obtain ⟨y0,y1⟩:=cs2 V
     have R:=aC Z
     have ly:=aC V
     clear Z V
     by_cases bJ:k=0
     ·have dk:((k:Int)==0)=true:=by simp [bJ]
      have cs:=bj.out 0 (by omega) _ ar.out
      have cp:=ct.out 0 (by omega) _ ar.out
      rw [Nat.add_zero] at cs cp
      have hE:=bL.out
      rw [bJ] at hE
      rw [hE] at cs
      obtain ⟨f0,b4⟩:∃x,r.from_[0]?.getD 0=x:=⟨_,rfl⟩
      rw [b4] at cp
      obtain ⟨HE,cr⟩:=hd2 hE b4
      have dj:(0:Int)<(H:Int):=by omega
      clear hE b4 D
      by_cases c4:(X:Int)=src
      ·have d4:((X:Int) != src)=false:=by simp [c4]
       by_cases c5:f0=0
       ·have d5:(f0 != 0)=false:=by simp [c5]
        by_cases c6:(X:Int) % p=5∨(X:Int) % p=6
        ·have aT:Hid (r.nodes[0]?.getD 0=src/\r.from_[0]?.getD 0=0/\(src % aV d=5∨src % aV d=6)):=⟨by rw [HE.out,c4],by rw [cr.out,c5],by rw [←c4,bE.out];exact c6⟩
         have a2:=Hd (HG.out ⟨cc.out,fun h=>by omega,fun h=>by rw [bE.out] at h;omega⟩)
         clear HG c4 c5
         rcases c6 with c6|c6
         ·have d6:((X:Int) % p != 5)=false:=by simp [c6]
          clear c6
          go_wp2_with fail
          go_roundw
          ·exact ⟨k+1,by omega,by go_num,by rw [aF.out];exact aw.out,a2.out,by rw [aF.out,dZ];exact ⟨bh.out,HM.out⟩,fun _=>aT.out⟩
          simp [intOf];omega
         have d6:((X:Int) % p != 5)=true:=by simp [c6]
         have d7:((X:Int) % p != 6)=false:=by simp [c6]
         clear c6
         go_wp2_with fail
         go_roundw
         ·exact ⟨k+1,by omega,by go_num,by rw [aF.out];exact aw.out,a2.out,by rw [aF.out,dZ];exact ⟨bh.out,HM.out⟩,fun _=>aT.out⟩
         simp [intOf];omega
        have HR:Hid (¬dB d src ks r):=fun h=>c6 (by have h1:=h.root.2.2;rwa [←c4,bE.out] at h1)
        have d6:((X:Int) % p != 5)=true:=by simp;omega
        have d7:((X:Int) % p != 6)=true:=by simp;omega
        clear HG c4 c5 c6
        go_wp2_with fail
        go_ret
        exact ⟨aO HR.out,ar.out⟩
       have HR:Hid (¬dB d src ks r):=fun h=>c5 (by rw [←cr.out];exact h.root.2.1)
       have d5:(f0 != 0)=true:=by simp [c5]
       clear HG c4 c5
       go_wp2_with fail
       go_ret
       exact ⟨aO HR.out,ar.out⟩
      have HR:Hid (¬dB d src ks r):=fun h=>c4 (by rw [←HE.out];exact h.root.1)
      have d4:((X:Int) != src)=true:=by simp [c4]
      clear HG c4
      go_wp2_with fail
      go_ret
      exact ⟨aO HR.out,ar.out⟩
     have dk:((k:Int)==0)=false:=by simp [bJ]
     have bN:0<k:=by omega
     have cF:=Hd (cb.out bN)
     have cn:=bj.out k bm _ ar.out
     have cf:=ct.out k bm _ ar.out
     rw [bL.out] at cn
     obtain ⟨f,hf⟩:∃f,r.from_[k]?.getD 0=f:=⟨_,rfl⟩
     rw [hf] at cf D HG
     clear hf bJ
     by_cases h0:f<0
     ·have HR:Hid (¬dB d src ks r):=fun h=>by have:=((D.out h).2.2.1 bN).1;omega
      have d0:decide (f<0)=true:=decide_eq_true h0
      clear HG D h0
      go_upto_region 14 with fail
      have G:=aY W7
      have W:=aP W7
      refine wpB W7 ?_
      repeat (go_big_quiet_step ((fail)))
      refine wpQuiet_nil ?_
      rintro wq ⟨⟨w5,B⟩,Y⟩
      replace Y:wq=w5:=Y
      subst Y
      clear G W
      have ai:=Hd (aw.out.below B)
      have aU:=Hd (aA HD.out ai.out.bel)
      clear B x0 x1 x2 x3 y0 y1 R ly cf aG cn Q
      go_wp2_with fail
      go_ret
      exact ⟨aO HR.out,aU.out⟩
     have d0:decide (f<0)=false:=decide_eq_false h0
     by_cases h1:(k:Int)<=f
     ·have HR:Hid (¬dB d src ks r):=fun h=>by have:=((D.out h).2.2.1 bN).1;omega
      have d1:decide ((k:Int)<=f)=true:=decide_eq_true h1
      have b2:decide (f≥(k:Int))=true:=decide_eq_true h1
      clear HG D h0 h1
      go_upto_region 14 with fail
      have G:=aY W7
      have W:=aP W7
      refine wpB W7 ?_
      repeat (go_big_quiet_step ((fail)))
      refine wpQuiet_nil ?_
      rintro wq ⟨⟨w5,B⟩,Y⟩
      replace Y:wq=w5:=Y
      subst Y
      clear G W
      have ai:=Hd (aw.out.below B)
      have aU:=Hd (aA HD.out ai.out.bel)
      clear B x0 x1 x2 x3 y0 y1 R ly cf aG cn Q
      go_wp2_with fail
      go_ret
      exact ⟨aO HR.out,aU.out⟩
     have d1:decide ((k:Int)<=f)=false:=decide_eq_false h1
     have b2:decide (f≥(k:Int))=false:=decide_eq_false h1
     obtain ⟨F,rfl⟩:∃F:Nat,f=(F:Int):=⟨f.toNat,by omega⟩
     have hF:F<k:=by omega
     have dr:decide (k<=F)=false:=decide_eq_false (by omega)
     have cy:=bj.out F (by omega) _ ar.out
     rw [Int.toNat_natCast] at D HG
     obtain ⟨y,V⟩:∃y,r.nodes[F]?.getD 0=y:=⟨_,rfl⟩
     rw [V] at cy D HG
     obtain ⟨dx,iF⟩:=ib (by omega:F<H)
     have cK:Hid ((0<=(F:Int)/\(F:Int)<(k:Int))):=⟨by omega,by omega⟩
     have be:=Hd (fun (v:World) (_:Below W7.heap.size W7 v)=>r9 d (X:Int) v)
     clear V h0 h1
     by_cases hb:y∈fe d (X:Int)
     ·have bq:=decide_eq_true hb
      have cG:=Hd hb
      have bs:=Hd (fun (A:Option Addr) (m c:Nat) (v:World) (h:dP v A m (fe d (X:Int))) (hm:m<=1048576)=>(by have h2:=nM A m c (fe d (X:Int)) y v h hm;rwa [bq] at h2:Calls Tryz.prog 208 #[.slice A m c,.int .i64 y] v fun e w'=>e = .returned (.bool true)/\v=w'))
      clear bq hb
      by_cases h5:(X:Int) % p<5
      ·have d5:decide ((X:Int) % p<5)=true:=decide_eq_true h5
       by_cases hq:(X:Int)∈ks
       ·have bC:=decide_eq_true hq
        have bY:=Hd (fun (v:World) (J:Below W7.heap.size W7 v)=>(by have h2:=nM KA kn kc ks (X:Int) v (bv.out.below (aA ar.out J)) ci;rwa [bC] at h2:Calls Tryz.prog 208 #[.slice KA kn kc,.int .i64 (X:Int)] v fun e w'=>e = .returned (.bool true)/\v=w'))
        have a2:=Hd (HG.out ⟨cc.out,fun _=>⟨cK.out,cG.out⟩,fun _=>hq⟩)
        clear HG D bC hq h5
        have B:=(Below.refl W7.heap.size W7).drew
        have g:Hid (∀w',Below W7.heap.size W7 w'→(KD w' w.heap.size d (w'.cell? ⟨w.heap.size+1,0,none⟩=some (.slice (some ⟨bn,u,none⟩) H nc)/\w'.cell? ⟨w.heap.size+1,1,none⟩=some (.slice (some ⟨bf,I,none⟩) H fc)/\w'.cell? ⟨bn,u+k,none⟩=some (.int .i64 (X:Int))/\w'.cell? ⟨bf,I+k,none⟩=some (.int .i64 (F:Int))/\w'.cell? ⟨bn,u+F,none⟩=some (.int .i64 y)))):=fun v J=>⟨(J.cell (p:=⟨w.heap.size,0,none⟩) R).trans x0,(J.cell (p:=⟨w.heap.size,1,none⟩) R).trans x1,(J.cell (p:=⟨w.heap.size,2,none⟩) R).trans x2,(J.cell (p:=⟨w.heap.size,3,none⟩) R).trans x3,(J.cell (p:=⟨w.heap.size+1,0,none⟩) ly).trans y0,(J.cell (p:=⟨w.heap.size+1,1,none⟩) ly).trans y1,(J.cell (p:=⟨bn,u+k,none⟩) Q).trans cn,(J.cell (p:=⟨bf,I+k,none⟩) aG).trans cf,(J.cell (p:=⟨bn,u+F,none⟩) Q).trans cy⟩
        go_upto_region 14 with fail
        refine wp_region_held_drew (S:=(fun w'=>KD w' w.heap.size d (w'.cell? ⟨w.heap.size+1,0,none⟩=some (.slice (some ⟨bn,u,none⟩) H nc)/\w'.cell? ⟨w.heap.size+1,1,none⟩=some (.slice (some ⟨bf,I,none⟩) H fc)/\w'.cell? ⟨bn,u+k,none⟩=some (.int .i64 (X:Int))/\w'.cell? ⟨bf,I+k,none⟩=some (.int .i64 (F:Int))/\w'.cell? ⟨bn,u+F,none⟩=some (.int .i64 y)))) (by kernel_rfl) ?_ (fun hHeld=>?_)
        ·(try dsimp only)
         first|exact g.out _ B
        refine onW 0 opA hHeld ?_
        refine onW 1 (opB opA) hHeld ?_
        refine onW 2 (opB (opB opA)) hHeld ?_
        refine onW 3 (opB (opB (opB opA))) hHeld ?_
        refine onW 4 (opC opA) hHeld ?_
        refine onW 5 (opC (opB opA)) hHeld ?_
        refine onW 6 (opC (opB (opB opA))) hHeld ?_
        refine onW 7 (opC (opB (opB (opB opA)))) hHeld ?_
        refine onW 8 (opC (opC opA)) hHeld ?_
        refine onW 9 (opC (opC (opB opA))) hHeld ?_
        refine onW 10 (opC (opC (opB (opB opA)))) hHeld ?_
        refine onW 11 (opC (opC (opB (opB (opB opA))))) hHeld ?_
        refine onW 12 (opC (opC (opC opA))) hHeld ?_
        refine onW 13 (opC (opC (opC (opB opA)))) hHeld ?_
        refine onW 14 (opC (opC (opC (opB (opB opA))))) hHeld ?_
        refine onW 15 (opC (opC (opC (opB (opB (opB opA)))))) hHeld ?_
        refine onW 16 (opD opA) hHeld ?_
        refine onW 17 (opD (opB opA)) hHeld ?_
        refine onW 18 (opD (opB (opB opA))) hHeld ?_
        refine onW 19 (opD (opB (opB (opB opA)))) hHeld ?_
        refine onW 20 (opD (opC opA)) hHeld ?_
        refine onW 21 (opD (opC (opB opA))) hHeld ?_
        refine onW 23 (opD (opC (opB (opB (opB opA))))) hHeld ?_
        refine onW 24 (opD (opC (opC opA))) hHeld ?_
        refine onW 25 (opD (opC (opC (opB opA)))) hHeld ?_
        refine onW 26 (opD (opC (opC (opB (opB opA))))) hHeld ?_
        refine onW 27 (opD (opC (opC (opB (opB (opB opA)))))) hHeld ?_
        refine onW 28 (opD (opC (opC (opC opA)))) hHeld ?_
        refine onW 29 (opD (opC (opC (opC (opB opA))))) hHeld ?_
        refine onW 30 (opD (opC (opC (opC (opB (opB opA)))))) hHeld ?_
        refine onW 31 (opD (opC (opC (opC (opB (opB (opB opA))))))) hHeld ?_
        refine ig (i:=22) (opD (opC (opB (opB opA)))) (fun K U=>?_)
        go_simp
        (go_at_call 146;(with_reducible refine (be.out _ B).mono ?_);rintro e5 w5 ⟨A5,n5,c5,rfl,o5,b5⟩;have O5:=Hd o5.ints;have a8:n5<=1048576:=(by have h5:=o5.len;have h6:=lm d (X:Int);omega);replace B:=aA B b5;clear b5 o5)
        first|refine U.out _ _ ?_ (fun hHeld=>?_)|(go_wp2_with fail;refine U.out _ _ ?_ (fun hHeld=>?_))
        ·(try dsimp only)
         first|exact g.out _ B
        clear U K
        try simp only [Act.put,List.setIfInBounds_toArray,List.set_cons_zero,List.set_cons_succ]
        refine ig (i:=32) (opD (opD opA)) (fun K U=>?_)
        go_simp
        (go_at_call 208;(with_reducible refine (bs.out A5 n5 c5 _ O5.out a8).mono ?_);rintro _ wi ⟨rfl,rfl⟩)
        first|refine U.out _ _ ?_ (fun hHeld=>?_)|(go_wp2_with fail;refine U.out _ _ ?_ (fun hHeld=>?_))
        ·(try dsimp only)
         first|exact g.out _ B
        clear U K
        try simp only [Act.put,List.setIfInBounds_toArray,List.set_cons_zero,List.set_cons_succ]
        refine onW 33 (opD (opD (opB opA))) hHeld ?_
        refine onW 34 (opD (opD (opB (opB opA)))) hHeld ?_
        refine onW 35 (opD (opD (opB (opB (opB opA))))) hHeld ?_
        refine onW 36 (opD (opD (opC opA))) hHeld ?_
        refine onW 37 (opD (opD (opC (opB opA)))) hHeld ?_
        refine onW 38 (opD (opD (opC (opB (opB opA))))) hHeld ?_
        refine onW 39 (opD (opD (opC (opB (opB (opB opA)))))) hHeld ?_
        refine onW 40 (opD (opD (opC (opC opA)))) hHeld ?_
        refine onW 41 (opD (opD (opC (opC (opB opA))))) hHeld ?_
        refine onW 42 (opD (opD (opC (opC (opB (opB opA)))))) hHeld ?_
        refine onW 43 (opD (opD (opC (opC (opB (opB (opB opA))))))) hHeld ?_
        refine onW 44 (opD (opD (opC (opC (opC opA))))) hHeld ?_
        refine ig (i:=45) (opD (opD (opC (opC (opC (opB opA)))))) (fun K U=>?_)
        go_simp
        (go_at_call 208;(with_reducible refine (bY.out _ B).mono ?_);rintro _ wi ⟨rfl,rfl⟩)
        first|refine U.out _ _ ?_ (fun hHeld=>?_)|(go_wp2_with fail;refine U.out _ _ ?_ (fun hHeld=>?_))
        ·(try dsimp only)
         first|exact g.out _ B
        clear U K
        try simp only [Act.put,List.setIfInBounds_toArray,List.set_cons_zero,List.set_cons_succ]
        refine onW 46 (opD (opD (opC (opC (opC (opB (opB opA))))))) hHeld ?_
        refine onW 47 (opD (opD (opC (opC (opC (opB (opB (opB opA)))))))) hHeld ?_
        refine onW 48 (opD (opD (opD opA))) hHeld ?_
        refine wpAnyH_done (by kernel_rfl) ?_ _
        have ai:=Hd (aw.out.below B)
        have aU:=Hd (aA HD.out ai.out.bel)
        clear B x0 x1 x2 x3 y0 y1 R ly cn cf cy Q aG g
        go_wp2_with fail
        go_roundw
        ·exact ⟨k+1,by omega,by go_num,by rw [aF.out];exact ai.out,a2.out,by rw [aF.out,dZ];exact ⟨bh.out,HM.out⟩,fun _=>cF.out⟩
        simp [intOf];omega
       have bC:=decide_eq_false hq
       have HR:Hid (¬dB d src ks r):=fun h=>hq ((D.out h).2.2.2 (by rw [bE.out];exact h5))
       have bY:=Hd (fun (v:World) (J:Below W7.heap.size W7 v)=>(by have h2:=nM KA kn kc ks (X:Int) v (bv.out.below (aA ar.out J)) ci;rwa [bC] at h2:Calls Tryz.prog 208 #[.slice KA kn kc,.int .i64 (X:Int)] v fun e w'=>e = .returned (.bool false)/\v=w'))
       clear HG D bC hq h5
       have B:=(Below.refl W7.heap.size W7).drew
       have g:Hid (∀w',Below W7.heap.size W7 w'→(KD w' w.heap.size d (w'.cell? ⟨w.heap.size+1,0,none⟩=some (.slice (some ⟨bn,u,none⟩) H nc)/\w'.cell? ⟨w.heap.size+1,1,none⟩=some (.slice (some ⟨bf,I,none⟩) H fc)/\w'.cell? ⟨bn,u+k,none⟩=some (.int .i64 (X:Int))/\w'.cell? ⟨bf,I+k,none⟩=some (.int .i64 (F:Int))/\w'.cell? ⟨bn,u+F,none⟩=some (.int .i64 y)))):=fun v J=>⟨(J.cell (p:=⟨w.heap.size,0,none⟩) R).trans x0,(J.cell (p:=⟨w.heap.size,1,none⟩) R).trans x1,(J.cell (p:=⟨w.heap.size,2,none⟩) R).trans x2,(J.cell (p:=⟨w.heap.size,3,none⟩) R).trans x3,(J.cell (p:=⟨w.heap.size+1,0,none⟩) ly).trans y0,(J.cell (p:=⟨w.heap.size+1,1,none⟩) ly).trans y1,(J.cell (p:=⟨bn,u+k,none⟩) Q).trans cn,(J.cell (p:=⟨bf,I+k,none⟩) aG).trans cf,(J.cell (p:=⟨bn,u+F,none⟩) Q).trans cy⟩
       go_upto_region 14 with fail
       refine wp_region_held_drew (S:=(fun w'=>KD w' w.heap.size d (w'.cell? ⟨w.heap.size+1,0,none⟩=some (.slice (some ⟨bn,u,none⟩) H nc)/\w'.cell? ⟨w.heap.size+1,1,none⟩=some (.slice (some ⟨bf,I,none⟩) H fc)/\w'.cell? ⟨bn,u+k,none⟩=some (.int .i64 (X:Int))/\w'.cell? ⟨bf,I+k,none⟩=some (.int .i64 (F:Int))/\w'.cell? ⟨bn,u+F,none⟩=some (.int .i64 y)))) (by kernel_rfl) ?_ (fun hHeld=>?_)
       ·(try dsimp only)
        first|exact g.out _ B
       refine onW 0 opA hHeld ?_
       refine onW 1 (opB opA) hHeld ?_
       refine onW 2 (opB (opB opA)) hHeld ?_
       refine onW 3 (opB (opB (opB opA))) hHeld ?_
       refine onW 4 (opC opA) hHeld ?_
       refine onW 5 (opC (opB opA)) hHeld ?_
       refine onW 6 (opC (opB (opB opA))) hHeld ?_
       refine onW 7 (opC (opB (opB (opB opA)))) hHeld ?_
       refine onW 8 (opC (opC opA)) hHeld ?_
       refine onW 9 (opC (opC (opB opA))) hHeld ?_
       refine onW 10 (opC (opC (opB (opB opA)))) hHeld ?_
       refine onW 11 (opC (opC (opB (opB (opB opA))))) hHeld ?_
       refine onW 12 (opC (opC (opC opA))) hHeld ?_
       refine onW 13 (opC (opC (opC (opB opA)))) hHeld ?_
       refine onW 14 (opC (opC (opC (opB (opB opA))))) hHeld ?_
       refine onW 15 (opC (opC (opC (opB (opB (opB opA)))))) hHeld ?_
       refine onW 16 (opD opA) hHeld ?_
       refine onW 17 (opD (opB opA)) hHeld ?_
       refine onW 18 (opD (opB (opB opA))) hHeld ?_
       refine onW 19 (opD (opB (opB (opB opA)))) hHeld ?_
       refine onW 20 (opD (opC opA)) hHeld ?_
       refine onW 21 (opD (opC (opB opA))) hHeld ?_
       refine onW 23 (opD (opC (opB (opB (opB opA))))) hHeld ?_
       refine onW 24 (opD (opC (opC opA))) hHeld ?_
       refine onW 25 (opD (opC (opC (opB opA)))) hHeld ?_
       refine onW 26 (opD (opC (opC (opB (opB opA))))) hHeld ?_
       refine onW 27 (opD (opC (opC (opB (opB (opB opA)))))) hHeld ?_
       refine onW 28 (opD (opC (opC (opC opA)))) hHeld ?_
       refine onW 29 (opD (opC (opC (opC (opB opA))))) hHeld ?_
       refine onW 30 (opD (opC (opC (opC (opB (opB opA)))))) hHeld ?_
       refine onW 31 (opD (opC (opC (opC (opB (opB (opB opA))))))) hHeld ?_
       refine ig (i:=22) (opD (opC (opB (opB opA)))) (fun K U=>?_)
       go_simp
       (go_at_call 146;(with_reducible refine (be.out _ B).mono ?_);rintro e5 w5 ⟨A5,n5,c5,rfl,o5,b5⟩;have O5:=Hd o5.ints;have a8:n5<=1048576:=(by have h5:=o5.len;have h6:=lm d (X:Int);omega);replace B:=aA B b5;clear b5 o5)
       first|refine U.out _ _ ?_ (fun hHeld=>?_)|(go_wp2_with fail;refine U.out _ _ ?_ (fun hHeld=>?_))
       ·(try dsimp only)
        first|exact g.out _ B
       clear U K
       try simp only [Act.put,List.setIfInBounds_toArray,List.set_cons_zero,List.set_cons_succ]
       refine ig (i:=32) (opD (opD opA)) (fun K U=>?_)
       go_simp
       (go_at_call 208;(with_reducible refine (bs.out A5 n5 c5 _ O5.out a8).mono ?_);rintro _ wi ⟨rfl,rfl⟩)
       first|refine U.out _ _ ?_ (fun hHeld=>?_)|(go_wp2_with fail;refine U.out _ _ ?_ (fun hHeld=>?_))
       ·(try dsimp only)
        first|exact g.out _ B
       clear U K
       try simp only [Act.put,List.setIfInBounds_toArray,List.set_cons_zero,List.set_cons_succ]
       refine onW 33 (opD (opD (opB opA))) hHeld ?_
       refine onW 34 (opD (opD (opB (opB opA)))) hHeld ?_
       refine onW 35 (opD (opD (opB (opB (opB opA))))) hHeld ?_
       refine onW 36 (opD (opD (opC opA))) hHeld ?_
       refine onW 37 (opD (opD (opC (opB opA)))) hHeld ?_
       refine onW 38 (opD (opD (opC (opB (opB opA))))) hHeld ?_
       refine onW 39 (opD (opD (opC (opB (opB (opB opA)))))) hHeld ?_
       refine onW 40 (opD (opD (opC (opC opA)))) hHeld ?_
       refine onW 41 (opD (opD (opC (opC (opB opA))))) hHeld ?_
       refine onW 42 (opD (opD (opC (opC (opB (opB opA)))))) hHeld ?_
       refine onW 43 (opD (opD (opC (opC (opB (opB (opB opA))))))) hHeld ?_
       refine onW 44 (opD (opD (opC (opC (opC opA))))) hHeld ?_
       refine ig (i:=45) (opD (opD (opC (opC (opC (opB opA)))))) (fun K U=>?_)
       go_simp
       (go_at_call 208;(with_reducible refine (bY.out _ B).mono ?_);rintro _ wi ⟨rfl,rfl⟩)
       first|refine U.out _ _ ?_ (fun hHeld=>?_)|(go_wp2_with fail;refine U.out _ _ ?_ (fun hHeld=>?_))
       ·(try dsimp only)
        first|exact g.out _ B
       clear U K
       try simp only [Act.put,List.setIfInBounds_toArray,List.set_cons_zero,List.set_cons_succ]
       refine onW 46 (opD (opD (opC (opC (opC (opB (opB opA))))))) hHeld ?_
       refine onW 47 (opD (opD (opC (opC (opC (opB (opB (opB opA)))))))) hHeld ?_
       refine onW 48 (opD (opD (opD opA))) hHeld ?_
       refine wpAnyH_done (by kernel_rfl) ?_ _
       have ai:=Hd (aw.out.below B)
       have aU:=Hd (aA HD.out ai.out.bel)
       clear B x0 x1 x2 x3 y0 y1 R ly cn cf cy Q aG g
       go_wp2_with fail
       go_ret
       exact ⟨aO HR.out,aU.out⟩
      have d5:decide ((X:Int) % p<5)=false:=decide_eq_false h5
      have a2:=Hd (HG.out ⟨cc.out,fun _=>⟨cK.out,cG.out⟩,fun h=>absurd (by rwa [bE.out] at h) h5⟩)
      clear HG D h5
      have B:=(Below.refl W7.heap.size W7).drew
      have g:Hid (∀w',Below W7.heap.size W7 w'→(KD w' w.heap.size d (w'.cell? ⟨w.heap.size+1,0,none⟩=some (.slice (some ⟨bn,u,none⟩) H nc)/\w'.cell? ⟨w.heap.size+1,1,none⟩=some (.slice (some ⟨bf,I,none⟩) H fc)/\w'.cell? ⟨bn,u+k,none⟩=some (.int .i64 (X:Int))/\w'.cell? ⟨bf,I+k,none⟩=some (.int .i64 (F:Int))/\w'.cell? ⟨bn,u+F,none⟩=some (.int .i64 y)))):=fun v J=>⟨(J.cell (p:=⟨w.heap.size,0,none⟩) R).trans x0,(J.cell (p:=⟨w.heap.size,1,none⟩) R).trans x1,(J.cell (p:=⟨w.heap.size,2,none⟩) R).trans x2,(J.cell (p:=⟨w.heap.size,3,none⟩) R).trans x3,(J.cell (p:=⟨w.heap.size+1,0,none⟩) ly).trans y0,(J.cell (p:=⟨w.heap.size+1,1,none⟩) ly).trans y1,(J.cell (p:=⟨bn,u+k,none⟩) Q).trans cn,(J.cell (p:=⟨bf,I+k,none⟩) aG).trans cf,(J.cell (p:=⟨bn,u+F,none⟩) Q).trans cy⟩
      go_upto_region 14 with fail
      refine wp_region_held_drew (S:=(fun w'=>KD w' w.heap.size d (w'.cell? ⟨w.heap.size+1,0,none⟩=some (.slice (some ⟨bn,u,none⟩) H nc)/\w'.cell? ⟨w.heap.size+1,1,none⟩=some (.slice (some ⟨bf,I,none⟩) H fc)/\w'.cell? ⟨bn,u+k,none⟩=some (.int .i64 (X:Int))/\w'.cell? ⟨bf,I+k,none⟩=some (.int .i64 (F:Int))/\w'.cell? ⟨bn,u+F,none⟩=some (.int .i64 y)))) (by kernel_rfl) ?_ (fun hHeld=>?_)
      ·(try dsimp only)
       first|exact g.out _ B
      refine onW 0 opA hHeld ?_
      refine onW 1 (opB opA) hHeld ?_
      refine onW 2 (opB (opB opA)) hHeld ?_
      refine onW 3 (opB (opB (opB opA))) hHeld ?_
      refine onW 4 (opC opA) hHeld ?_
      refine onW 5 (opC (opB opA)) hHeld ?_
      refine onW 6 (opC (opB (opB opA))) hHeld ?_
      refine onW 7 (opC (opB (opB (opB opA)))) hHeld ?_
      refine onW 8 (opC (opC opA)) hHeld ?_
      refine onW 9 (opC (opC (opB opA))) hHeld ?_
      refine onW 10 (opC (opC (opB (opB opA)))) hHeld ?_
      refine onW 11 (opC (opC (opB (opB (opB opA))))) hHeld ?_
      refine onW 12 (opC (opC (opC opA))) hHeld ?_
      refine onW 13 (opC (opC (opC (opB opA)))) hHeld ?_
      refine onW 14 (opC (opC (opC (opB (opB opA))))) hHeld ?_
      refine onW 15 (opC (opC (opC (opB (opB (opB opA)))))) hHeld ?_
      refine onW 16 (opD opA) hHeld ?_
      refine onW 17 (opD (opB opA)) hHeld ?_
      refine onW 18 (opD (opB (opB opA))) hHeld ?_
      refine onW 19 (opD (opB (opB (opB opA)))) hHeld ?_
      refine onW 20 (opD (opC opA)) hHeld ?_
      refine onW 21 (opD (opC (opB opA))) hHeld ?_
      refine onW 23 (opD (opC (opB (opB (opB opA))))) hHeld ?_
      refine onW 24 (opD (opC (opC opA))) hHeld ?_
      refine onW 25 (opD (opC (opC (opB opA)))) hHeld ?_
      refine onW 26 (opD (opC (opC (opB (opB opA))))) hHeld ?_
      refine onW 27 (opD (opC (opC (opB (opB (opB opA)))))) hHeld ?_
      refine onW 28 (opD (opC (opC (opC opA)))) hHeld ?_
      refine onW 29 (opD (opC (opC (opC (opB opA))))) hHeld ?_
      refine onW 30 (opD (opC (opC (opC (opB (opB opA)))))) hHeld ?_
      refine onW 31 (opD (opC (opC (opC (opB (opB (opB opA))))))) hHeld ?_
      refine ig (i:=22) (opD (opC (opB (opB opA)))) (fun K U=>?_)
      go_simp
      (go_at_call 146;(with_reducible refine (be.out _ B).mono ?_);rintro e5 w5 ⟨A5,n5,c5,rfl,o5,b5⟩;have O5:=Hd o5.ints;have a8:n5<=1048576:=(by have h5:=o5.len;have h6:=lm d (X:Int);omega);replace B:=aA B b5;clear b5 o5)
      first|refine U.out _ _ ?_ (fun hHeld=>?_)|(go_wp2_with fail;refine U.out _ _ ?_ (fun hHeld=>?_))
      ·(try dsimp only)
       first|exact g.out _ B
      clear U K
      try simp only [Act.put,List.setIfInBounds_toArray,List.set_cons_zero,List.set_cons_succ]
      refine ig (i:=32) (opD (opD opA)) (fun K U=>?_)
      go_simp
      (go_at_call 208;(with_reducible refine (bs.out A5 n5 c5 _ O5.out a8).mono ?_);rintro _ wi ⟨rfl,rfl⟩)
      first|refine U.out _ _ ?_ (fun hHeld=>?_)|(go_wp2_with fail;refine U.out _ _ ?_ (fun hHeld=>?_))
      ·(try dsimp only)
       first|exact g.out _ B
      clear U K
      try simp only [Act.put,List.setIfInBounds_toArray,List.set_cons_zero,List.set_cons_succ]
      refine onW 33 (opD (opD (opB opA))) hHeld ?_
      refine onW 34 (opD (opD (opB (opB opA)))) hHeld ?_
      refine onW 35 (opD (opD (opB (opB (opB opA))))) hHeld ?_
      refine onW 36 (opD (opD (opC opA))) hHeld ?_
      refine onW 37 (opD (opD (opC (opB opA)))) hHeld ?_
      refine onW 38 (opD (opD (opC (opB (opB opA))))) hHeld ?_
      refine bZ 39 (opD (opD (opC (opB (opB (opB opA)))))) hHeld ?_
      refine bZ 40 (opD (opD (opC (opC opA)))) hHeld ?_
      refine bZ 41 (opD (opD (opC (opC (opB opA))))) hHeld ?_
      refine bZ 42 (opD (opD (opC (opC (opB (opB opA)))))) hHeld ?_
      refine bZ 43 (opD (opD (opC (opC (opB (opB (opB opA))))))) hHeld ?_
      refine bZ 44 (opD (opD (opC (opC (opC opA))))) hHeld ?_
      refine bZ 45 (opD (opD (opC (opC (opC (opB opA)))))) hHeld ?_
      refine bZ 46 (opD (opD (opC (opC (opC (opB (opB opA))))))) hHeld ?_
      refine onW 47 (opD (opD (opC (opC (opC (opB (opB (opB opA)))))))) hHeld ?_
      refine onW 48 (opD (opD (opD opA))) hHeld ?_
      refine wpAnyH_done (by kernel_rfl) ?_ _
      have ai:=Hd (aw.out.below B)
      have aU:=Hd (aA HD.out ai.out.bel)
      clear B x0 x1 x2 x3 y0 y1 R ly cn cf cy Q aG g
      go_wp2_with fail
      go_roundw
      ·exact ⟨k+1,by omega,by go_num,by rw [aF.out];exact ai.out,a2.out,by rw [aF.out,dZ];exact ⟨bh.out,HM.out⟩,fun _=>cF.out⟩
      simp [intOf];omega
     have bq:=decide_eq_false hb
     have HR:Hid (¬dB d src ks r):=fun h=>hb ((D.out h).2.2.1 bN).2
     have bs:=Hd (fun (A:Option Addr) (m c:Nat) (v:World) (h:dP v A m (fe d (X:Int))) (hm:m<=1048576)=>(by have h2:=nM A m c (fe d (X:Int)) y v h hm;rwa [bq] at h2:Calls Tryz.prog 208 #[.slice A m c,.int .i64 y] v fun e w'=>e = .returned (.bool false)/\v=w'))
     clear HG D bq hb
     have B:=(Below.refl W7.heap.size W7).drew
     have g:Hid (∀w',Below W7.heap.size W7 w'→(KD w' w.heap.size d (w'.cell? ⟨w.heap.size+1,0,none⟩=some (.slice (some ⟨bn,u,none⟩) H nc)/\w'.cell? ⟨w.heap.size+1,1,none⟩=some (.slice (some ⟨bf,I,none⟩) H fc)/\w'.cell? ⟨bn,u+k,none⟩=some (.int .i64 (X:Int))/\w'.cell? ⟨bf,I+k,none⟩=some (.int .i64 (F:Int))/\w'.cell? ⟨bn,u+F,none⟩=some (.int .i64 y)))):=fun v J=>⟨(J.cell (p:=⟨w.heap.size,0,none⟩) R).trans x0,(J.cell (p:=⟨w.heap.size,1,none⟩) R).trans x1,(J.cell (p:=⟨w.heap.size,2,none⟩) R).trans x2,(J.cell (p:=⟨w.heap.size,3,none⟩) R).trans x3,(J.cell (p:=⟨w.heap.size+1,0,none⟩) ly).trans y0,(J.cell (p:=⟨w.heap.size+1,1,none⟩) ly).trans y1,(J.cell (p:=⟨bn,u+k,none⟩) Q).trans cn,(J.cell (p:=⟨bf,I+k,none⟩) aG).trans cf,(J.cell (p:=⟨bn,u+F,none⟩) Q).trans cy⟩
     go_upto_region 14 with fail
     refine wp_region_held_drew (S:=(fun w'=>KD w' w.heap.size d (w'.cell? ⟨w.heap.size+1,0,none⟩=some (.slice (some ⟨bn,u,none⟩) H nc)/\w'.cell? ⟨w.heap.size+1,1,none⟩=some (.slice (some ⟨bf,I,none⟩) H fc)/\w'.cell? ⟨bn,u+k,none⟩=some (.int .i64 (X:Int))/\w'.cell? ⟨bf,I+k,none⟩=some (.int .i64 (F:Int))/\w'.cell? ⟨bn,u+F,none⟩=some (.int .i64 y)))) (by kernel_rfl) ?_ (fun hHeld=>?_)
     ·(try dsimp only)
      first|exact g.out _ B
     refine onW 0 opA hHeld ?_
     refine onW 1 (opB opA) hHeld ?_
     refine onW 2 (opB (opB opA)) hHeld ?_
     refine onW 3 (opB (opB (opB opA))) hHeld ?_
     refine onW 4 (opC opA) hHeld ?_
     refine onW 5 (opC (opB opA)) hHeld ?_
     refine onW 6 (opC (opB (opB opA))) hHeld ?_
     refine onW 7 (opC (opB (opB (opB opA)))) hHeld ?_
     refine onW 8 (opC (opC opA)) hHeld ?_
     refine onW 9 (opC (opC (opB opA))) hHeld ?_
     refine onW 10 (opC (opC (opB (opB opA)))) hHeld ?_
     refine onW 11 (opC (opC (opB (opB (opB opA))))) hHeld ?_
     refine onW 12 (opC (opC (opC opA))) hHeld ?_
     refine onW 13 (opC (opC (opC (opB opA)))) hHeld ?_
     refine onW 14 (opC (opC (opC (opB (opB opA))))) hHeld ?_
     refine onW 15 (opC (opC (opC (opB (opB (opB opA)))))) hHeld ?_
     refine onW 16 (opD opA) hHeld ?_
     refine onW 17 (opD (opB opA)) hHeld ?_
     refine onW 18 (opD (opB (opB opA))) hHeld ?_
     refine onW 19 (opD (opB (opB (opB opA)))) hHeld ?_
     refine onW 20 (opD (opC opA)) hHeld ?_
     refine onW 21 (opD (opC (opB opA))) hHeld ?_
     refine onW 23 (opD (opC (opB (opB (opB opA))))) hHeld ?_
     refine onW 24 (opD (opC (opC opA))) hHeld ?_
     refine onW 25 (opD (opC (opC (opB opA)))) hHeld ?_
     refine onW 26 (opD (opC (opC (opB (opB opA))))) hHeld ?_
     refine onW 27 (opD (opC (opC (opB (opB (opB opA)))))) hHeld ?_
     refine onW 28 (opD (opC (opC (opC opA)))) hHeld ?_
     refine onW 29 (opD (opC (opC (opC (opB opA))))) hHeld ?_
     refine onW 30 (opD (opC (opC (opC (opB (opB opA)))))) hHeld ?_
     refine onW 31 (opD (opC (opC (opC (opB (opB (opB opA))))))) hHeld ?_
     refine ig (i:=22) (opD (opC (opB (opB opA)))) (fun K U=>?_)
     go_simp
     (go_at_call 146;(with_reducible refine (be.out _ B).mono ?_);rintro e5 w5 ⟨A5,n5,c5,rfl,o5,b5⟩;have O5:=Hd o5.ints;have a8:n5<=1048576:=(by have h5:=o5.len;have h6:=lm d (X:Int);omega);replace B:=aA B b5;clear b5 o5)
     first|refine U.out _ _ ?_ (fun hHeld=>?_)|(go_wp2_with fail;refine U.out _ _ ?_ (fun hHeld=>?_))
     ·(try dsimp only)
      first|exact g.out _ B
     clear U K
     try simp only [Act.put,List.setIfInBounds_toArray,List.set_cons_zero,List.set_cons_succ]
     refine ig (i:=32) (opD (opD opA)) (fun K U=>?_)
     go_simp
     (go_at_call 208;(with_reducible refine (bs.out A5 n5 c5 _ O5.out a8).mono ?_);rintro _ wi ⟨rfl,rfl⟩)
     first|refine U.out _ _ ?_ (fun hHeld=>?_)|(go_wp2_with fail;refine U.out _ _ ?_ (fun hHeld=>?_))
     ·(try dsimp only)
      first|exact g.out _ B
     clear U K
     try simp only [Act.put,List.setIfInBounds_toArray,List.set_cons_zero,List.set_cons_succ]
     refine onW 33 (opD (opD (opB opA))) hHeld ?_
     refine onW 34 (opD (opD (opB (opB opA)))) hHeld ?_
     refine onW 35 (opD (opD (opB (opB (opB opA))))) hHeld ?_
     refine bZ 36 (opD (opD (opC opA))) hHeld ?_
     refine bZ 37 (opD (opD (opC (opB opA)))) hHeld ?_
     refine bZ 38 (opD (opD (opC (opB (opB opA))))) hHeld ?_
     refine bZ 39 (opD (opD (opC (opB (opB (opB opA)))))) hHeld ?_
     refine bZ 40 (opD (opD (opC (opC opA)))) hHeld ?_
     refine bZ 41 (opD (opD (opC (opC (opB opA))))) hHeld ?_
     refine bZ 42 (opD (opD (opC (opC (opB (opB opA)))))) hHeld ?_
     refine bZ 43 (opD (opD (opC (opC (opB (opB (opB opA))))))) hHeld ?_
     refine bZ 44 (opD (opD (opC (opC (opC opA))))) hHeld ?_
     refine bZ 45 (opD (opD (opC (opC (opC (opB opA)))))) hHeld ?_
     refine bZ 46 (opD (opD (opC (opC (opC (opB (opB opA))))))) hHeld ?_
     refine bZ 47 (opD (opD (opC (opC (opC (opB (opB (opB opA)))))))) hHeld ?_
     refine onW 48 (opD (opD (opD opA))) hHeld ?_
     refine wpAnyH_done (by kernel_rfl) ?_ _
     have ai:=Hd (aw.out.below B)
     have aU:=Hd (aA HD.out ai.out.bel)
     clear B x0 x1 x2 x3 y0 y1 R ly cn cf cy Q aG g
     go_wp2_with fail
     go_ret
     exact ⟨aO HR.out,aU.out⟩
   have bD:k=H:=by omega
   have db:=dF (by omega:H<=k)
   have dc:Hid (r.nodes.take k=r.nodes):=by show _=_;rw [bD];exact List.take_of_length_le (by rw [HN.out.1];exact Nat.le_refl _)
   rw [dc.out] at HS bh
   rw [bD] at ax cb
   have aT:=Hd (cb.out (by omega))
   clear bD
   obtain ⟨wo,rfl⟩:∃x,x=wr:=⟨wr,rfl⟩
   go_wp2_with fail
   clear x0 x1 x2 x3 y0 y1 R ly
   go_loopw [12] (fun i wr=>∃q:Nat,q<=kn/\i = .int .i64 (q:Int)/\wo=wr/\∀j,j<q→ks[j]?.getD 0∈r.nodes) (fun i _=>kn - (intOf i).toNat)
   ·exact ⟨0,by omega,rfl,rfl,fun j hj=>by omega⟩
   obtain ⟨q,hq,rfl,rfl,co⟩:=hrel
   have b9:=Hd co
   clear co
   by_cases bT:q<kn
   ·have cZ:=dT (by omega:q<kn)
    have bX:q<ks.length:=by rw [bv.out.1];exact bT
    obtain ⟨bk,ok,cD,cx,cv⟩:=bv.out.2 (by omega)
    have df:=Hd cD
    have ck:=(az.out.cell (p:=⟨bk,ok+q,none⟩) cx).trans (cv q bT)
    have dC:=aK az.out cx
    have HG:Hid (ks[q]?.getD 0∈r.nodes→∀j,j<q+1→ks[j]?.getD 0∈r.nodes):=fun h=>bW b9.out h
    have D:Hid (ks[q]?.getD 0∉r.nodes→¬dB d src ks r):=fun h h'=>h (by rw [List.getElem?_eq_getElem bX];exact h'.sinks _ (List.getElem_mem bX))
    have av:Hid (ks[q]?.getD 0∈r.nodes→0<=ks[q]?.getD 0/\ks[q]?.getD 0<(N:Int)):=fun h=>by
     obtain ⟨j,hj,da⟩:=List.getElem_of_mem h
     have h1:=(ax.out j (by rw [←HN.out.1];exact hj)).1
     rw [List.getElem?_eq_getElem hj] at h1
     change bQ d (r.nodes[j])=true at h1
     rw [da] at h1
     have h2:=mq.1 (show fP d _=true from by unfold bQ at h1;rw [Bool.and_eq_true] at h1;exact h1.1)
     rw [bd.out] at h2
     exact h2
    clear cv bX cD
    obtain rfl:=df.out
    generalize ks[q]?.getD 0=s at *
    obtain ⟨i0,i1⟩:=ib (by omega:q<kn)
    by_cases h0:s<0
    ·have HR:=Hd (D.out (fun h=>by have:=av.out h;omega))
     have d0:decide (s<0)=true:=decide_eq_true h0
     clear HG D av h0
     go_wp2_with fail
     go_ret
     exact ⟨aO HR.out,az.out⟩
    have d0:decide (s<0)=false:=decide_eq_false h0
    by_cases h1:(N:Int)<=s
    ·have HR:=Hd (D.out (fun h=>by have:=av.out h;omega))
     have d1:decide ((N:Int)<=s)=true:=decide_eq_true h1
     have b2:decide (s≥(N:Int))=true:=decide_eq_true h1
     clear HG D av h0 h1
     go_wp2_with fail
     go_ret
     exact ⟨aO HR.out,az.out⟩
    have d1:decide ((N:Int)<=s)=false:=decide_eq_false h1
    have b2:decide (s≥(N:Int))=false:=decide_eq_false h1
    obtain ⟨X,rfl⟩:∃X:Nat,s=(X:Int):=⟨s.toNat,by omega⟩
    have bR:X<N:=by omega
    obtain ⟨cC,c0⟩:=ib (by omega:X<N)
    obtain ⟨q1,q2,⟨bP,q3⟩,q4⟩:=HS.out.truth 0 (k:=X) rfl bR
    clear q4 h0 h1 av
    by_cases hm:(X:Int)∈r.nodes
    ·have a2:=Hd (HG.out hm)
     rw [decide_eq_true hm] at q1
     clear HG D hm
     go_wp2_with fail
     go_roundw
     ·exact ⟨q+1,by omega,by go_num,by first|rfl|trivial,a2.out⟩
     simp [intOf];omega
    have HR:=Hd (D.out hm)
    rw [decide_eq_false hm] at q1
    clear HG D hm
    go_wp2_with fail
    go_ret
    exact ⟨aO HR.out,az.out⟩
   have cH:q=kn:=by omega
   have cZ:=dF (by omega:kn<=q)
   have HR:Hid (dB d src ks r):=by
    refine ⟨⟨by rw [HN.out.1];omega,by rw [HN.out.1];have h:=bd.out;unfold ik at h;rw [if_pos b8.out] at h;omega⟩,b8.out,by rw [b7.out.1,HN.out.1],fun n hn=>?_,bh.out,aT.out,fun i h0 hi=>(ax.out i (by rw [←HN.out.1];exact hi)).2.1 h0,fun n hn h5=>?_,fun n hn=>?_⟩
    ·obtain ⟨j,hj,rfl⟩:=List.getElem_of_mem hn
     have h:=(ax.out j (by rw [←HN.out.1];exact hj)).1
     rwa [List.getElem?_eq_getElem hj] at h
    ·obtain ⟨j,hj,rfl⟩:=List.getElem_of_mem hn
     have h:=(ax.out j (by rw [←HN.out.1];exact hj)).2.2
     rw [List.getElem?_eq_getElem hj] at h
     exact h h5
    obtain ⟨j,hj,rfl⟩:=List.getElem_of_mem hn
    have h:=b9.out j (by rw [cH,←bv.out.1];exact hj)
    rwa [List.getElem?_eq_getElem hj] at h
   clear ax b9 cH
   go_wp2_with fail
   go_ret
   exact ⟨dU HR.out,az.out⟩
  have HR:Hid (¬dB d src ks r):=fun h=>c3 (by rw [←b7.out.1,←HN.out.1];exact h.same)
  have d3:((fn:Int) != (H:Int))=true:=by simp;omega
  clear c3
  go_enter Tryz.func118,Tryz.ntmps118
  go_upto_region 1 with fail
  generalize (w.alloc (.cells (dv d) 36)).alloc (.cells #[.slice NA H nc,.slice FA fn fc] 114)=W9 at *
  have Z:=aX.out
  have V:=aS.out
  obtain ⟨x0,x1,x2,x3⟩:=cs4 Z
  obtain ⟨y0,y1⟩:=cs2 V
  have R:=aC Z
  have ly:=aC V
  clear Z V
  have br:=Hd (fun (x:Sub W9)=>gP d x.v)
  have av:=Hd (fun (x:Sub W9)=>(by have h:=aj (H:Int) 1 (ik d) x.v;rwa [bH.out] at h:Calls Tryz.prog 83 #[.int .i64 (H:Int),.int .i64 1,.int .i64 (ik d)] x.v fun e w'=>e = .returned (.bool true)/\x.v=w'))
  have G:=aY W9
  have W:=aP W9
  refine wpB W9 ?_
  repeat (go_big_quiet_step ((first
   | (go_at_call 116;with_reducible exact aN (br.out _))
   | (go_at_call 83;with_reducible exact aQ (av.out _)))))
  refine wpQuiet_nil ?_
  rintro wq ⟨⟨w5,B⟩,Y⟩
  replace Y:wq=w5:=Y
  subst Y
  clear G W
  have bw:=Hd B
  have HD:=Hd (aA ca.out B)
  clear B x0 x1 x2 x3 y0 y1 R ly
  go_wp2_with fail
  go_ret
  exact ⟨aO HR.out,HD.out⟩
end Go.Proofs.YtofihjoanjkdmaaGreat
