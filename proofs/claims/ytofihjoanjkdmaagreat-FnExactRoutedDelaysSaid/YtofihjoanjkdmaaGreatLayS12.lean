/- Routing nodes of pins in the reference. -/
import Derived.Test.YtofihjoanjkdmaaGreatHeldW
import Derived.Test.YtofihjoanjkdmaaGreatLayG5
import Derived.Test.YtofihjoanjkdmaaGreatSrs
namespace Go.Proofs.YtofihjoanjkdmaaGreat
set_option maxHeartbeats 8000000
set_option maxRecDepth 100000
open Go.RowKit
theorem pQ (d:Dev) (t:Int) (w:World) :
  Calls Tryz.prog 113 #[.agg (dv d),.int .i64 t] w fun e w'=>e = .returned (.int .i64 (lF d t))/\Below w.heap.size w w':=by
 by_cases K:t<=1099511627776
 ·cases ht:az d t with
  | false =>
   have h:=ql d t w ht K
   rwa [show lF d t=-1 by unfold lF;rw [ht];rfl]
  | true =>
   have h:=gZ d t w ht
   rwa [show lF d t=bH d t by unfold lF;rw [if_pos ht]]
 have q:Hid (lF d t=-1):=by
  show _=_
  unfold lF
  rw [if_neg]
  intro h
  obtain ⟨g,h0,h1⟩:=aV.1 h
  have:=fM g
  omega
 go_enter Tryz.func113,Tryz.ntmps113
 go_wp2_with fail
 refine (iV d _).mono ?_
 rintro e V ⟨rfl,j⟩
 obtain ⟨hcc,J⟩:=bG j
 have u:=Hd (aA (aD (Below.refl _ _) _) j)
 clear j
 cases g:dZ d with
 | false =>
  clear g
  go_wp2_with fail
  go_ret
  exact ⟨aL q.out.symm,u.out⟩
 | true =>
  obtain ⟨R,I,B⟩:=pM g
  obtain ⟨Q,G,U,z,_⟩:=ay g
  have D:=fM g
  clear g R
  have h0:¬t<0:=by omega
  have h1:t≥d.W * d.H:=by omega
  go_wp2_with fail
  go_ret
  exact ⟨aL q.out.symm,u.out⟩
theorem BI (d:Dev) (t p:Int) (w:World) :
  Calls Tryz.prog 206 #[.agg (dv d),.int .i64 t,.int .i64 p] w fun e w'=>e = .returned (.int .i64 (nT d t p))/\Below w.heap.size w w':=by
 have H:Hid (nT d t p=if az d t=true/\0<=p/\p<jA (bH d t) then t * aQ d+p else -1):=rfl
 have z:=Hd (aD (Below.refl w.heap.size w) (.cells (dv d) 36))
 by_cases j:p<0
 ·have q:Hid (nT d t p=-1):=by show _=_;rw [H.out,if_neg];rintro ⟨_,h0,_⟩;omega
  have dp:decide (p<0)=true:=decide_eq_true j
  clear j
  go_enter Tryz.func206,Tryz.ntmps206
  go_wp2_with fail
  go_ret
  exact ⟨aL q.out.symm,z.out⟩
 have dp:decide (p<0)=false:=decide_eq_false j
 cases ht:az d t with
 | false =>
  have q:Hid (nT d t p=-1):=by show _=_;rw [H.out,if_neg];rintro ⟨h0,_⟩;rw [ht] at h0;cases h0
  have u:Hid (lF d t=-1):=by show _=_;unfold lF;rw [ht];rfl
  have dq:decide (p≥0)=true:=decide_eq_true (by omega)
  have af:decide (0<=p)=true:=decide_eq_true (by omega)
  clear j ht
  go_enter Tryz.func206,Tryz.ntmps206
  go_wp2_with fail
  refine (pQ d t _).mono ?_
  rw [u.out]
  rintro _ w2 ⟨rfl,B⟩
  have g:=Hd (aA z.out B)
  clear B
  go_wp2_with fail
  refine (qQ (-1) _).mono ?_
  rw [show jA (-1)=0 from rfl]
  rintro _ W ⟨rfl,rfl⟩
  go_wp2_with fail
  go_ret
  exact ⟨aL q.out.symm,g.out⟩
 | true =>
  have u:Hid (lF d t=bH d t):=by show _=_;unfold lF;rw [if_pos ht]
  obtain ⟨G,U,ag⟩:=aV.1 ht
  have Y:=fM G
  have hT:=ay G
  have Z:=eT G
  have ak:=pJ d t
  have HM:=Hd (jc U (show t<=35 by omega) (show 0<=aQ d by omega) Z.2)
  have HT:=Hd ht
  clear ht G
  go_enter Tryz.func206,Tryz.ntmps206
  go_wp2_with fail
  refine (pQ d t _).mono ?_
  rw [u.out]
  rintro _ w2 ⟨rfl,B⟩
  have g:=Hd (aA z.out B)
  have I:=B.size
  simp only [World.size_alloc] at I
  obtain ⟨hcc,J⟩:=bG B
  clear B
  generalize bH d t=K at *
  go_wp2_with fail
  refine (qQ K _).mono ?_
  generalize jA K=Q at *
  rintro _ W ⟨rfl,rfl⟩
  by_cases D:p<Q
  ·have hh:decide (p≥Q)=false:=by simp;omega
   have q:Hid (nT d t p=t * aQ d+p):=by show _=_;rw [H.out,if_pos ⟨HT.out,by omega,D⟩]
   go_wp2_with fail
   refine (eG d _ (by omega) (by omega)).mono ?_
   rintro _ W ⟨rfl,V⟩
   have R:=Hd (aA g.out V)
   have hM:=HM.out
   clear V hcc J
   go_wp2_with fail
   go_ret
   exact ⟨aL q.out.symm,R.out⟩
  have hh:decide (p≥Q)=true:=by simp;omega
  have q:Hid (nT d t p=-1):=by show _=_;rw [H.out,if_neg];rintro ⟨_,_,h1⟩;exact D h1
  go_wp2_with fail
  go_ret
  exact ⟨aL q.out.symm,g.out⟩
def uQ (w:World) (b n:Nat) (l:List Int):Prop:=∃vs:Array Value,w.heap[b]?=some (.cells vs 4 (0,0))/\vs.size=n/\∀j,j<n→vs[j]?=some (.bool (decide ((j:Int)∈l)))
theorem uQ.made (w:World) (n:Nat):uQ (w.alloc (.cells (madeCells #[.bool false] n) 4)) w.heap.size n []:=by
 refine ⟨_,aI w _,size_madeCells _ _,fun j hj=>?_⟩
 rw [←Array.getElem?_toList,toList_madeCells_one,List.getElem?_replicate,if_pos hj]
 rfl
theorem uQ.keep {w w':World} {b n:Nat} {l:List Int} (h:uQ w b n l) (hk:w'.heap[b]?=w.heap[b]?):uQ w' b n l:=by
 obtain ⟨vs,h1,h2⟩:=h
 exact ⟨vs,hk.trans h1,h2⟩
theorem uQ.cell {w:World} {b n j:Nat} {l:List Int} (h:uQ w b n l) (hj:j<n):w.cell? ⟨b,j,none⟩=some (.bool (decide ((j:Int)∈l)))/\w.frozen? ⟨b,j,none⟩=false:=by
 obtain ⟨vs,h1,_,h2⟩:=h
 exact ⟨aF h1 (h2 j hj),aW h1 j⟩
theorem uQ.set {w:World} {b n k:Nat} {l:List Int} (h:uQ w b n l) (hk:k<n):uQ (w.setCell ⟨b,k,none⟩ (.bool true)) b n (l++[(k:Int)]):=by
 obtain ⟨vs,h1,h2,h3⟩:=h
 refine ⟨_,jf h1 k _,by simp [h2],fun j hj=>?_⟩
 rw [Array.getElem?_setIfInBounds]
 by_cases e:k=j
 ·subst e
  rw [if_pos rfl,if_pos (by omega)]
  simp
 rw [if_neg e,h3 j hj]
 have:(j:Int)≠(k:Int):=by omega
 simp [this]
abbrev rX (b n:Nat) (l:List Int):Pc := .own b fun w=>uQ w b n l
theorem DR (w:World) (b k:Nat) (v:Value):w.grownBy (w.setCell ⟨b,k,none⟩ v) (some b) :=
 ⟨rfl,rfl,rfl,by simp [World.setCell],fun i _ hn=>Below.heap_setCell w ⟨b,k,none⟩ v i fun e=>hn (by rw [e])⟩
theorem aJ.pushRowB {W w:World} {g:List Pc} (h:aJ W w g) (n:Nat):aJ W (w.alloc (.cells (madeCells #[.bool false] n) 4)) (g++[rX w.heap.size n []]) :=
 h.push (aD (Below.refl _ _) _) (G:=[w.heap.size]) ⟨rfl,by simp,uQ.made w n,fun _ _ e h=>h.keep e⟩ (by simp) (by simp)
theorem aJ.truth {W w:World} {g:List Pc} (S:aJ W w g) (i:Nat) {b n k:Nat} {l:List Int} (hi:g[i]?=some (rX b n l)) (hk:k<n) :
  w.cell? ⟨b,k,none⟩=some (.bool (decide ((k:Int)∈l)))/\w.frozen? ⟨b,k,none⟩=false/\(W.heap.size<=b/\b<w.heap.size)/\aJ W (w.setCell ⟨b,k,none⟩ (.bool true)) (g.set i (rX b n (l++[(k:Int)]))):=by
 obtain ⟨h1,h2,h3⟩:=S.own i hi
 exact ⟨(h1.cell hk).1,(h1.cell hk).2,⟨h2,h3⟩,S.own_upd i hi (DR w b k _) (h1.set hk) (fun _ _ e h=>h.keep e)⟩
theorem DT:(Tryz.prog.info? 4).map (fun i=>(i.zero,i.size,i.bytes))=some (some (.bool false),1,1):=by kernel_rfl
theorem nu (n:Nat) (hn:n<=1048576) (w:World):(Instr.makeSlice 160 (.int .i64 (n:Int)) (.int .i64 (n:Int))).run Tryz.prog w = .ok (.slice (some ⟨w.heap.size,0,none⟩) n n) (w.alloc (.cells (madeCells #[.bool false] n) 4)):=by
 obtain ⟨u,hi,j,g,q⟩:=info_parts DT
 have h:=dP (P:=Tryz.prog) 160 4 u _ Tryz.underlying160 hi j .i64 .i64 n n (Nat.le_refl _) (by rw [q];omega) (by omega) w
 rw [g,Nat.mul_one] at h
 exact h
theorem ny (k:Int) (w:World) :
  Calls Tryz.prog 114 #[.int .i64 k] w fun e w'=>e = .returned (.int .i64 (gD k))/\w=w':=by
 by_cases h0:k=0
 ·subst h0
  go_enter Tryz.func114,Tryz.ntmps114
  go_wp2_with fail
  go_ret
  exact ⟨rfl,rfl⟩
 by_cases h1:k=1
 ·subst h1
  go_enter Tryz.func114,Tryz.ntmps114
  go_wp2_with fail
  go_ret
  exact ⟨rfl,rfl⟩
 by_cases h2:k=2
 ·subst h2
  go_enter Tryz.func114,Tryz.ntmps114
  go_wp2_with fail
  go_ret
  exact ⟨rfl,rfl⟩
 by_cases h3:k=3
 ·subst h3
  go_enter Tryz.func114,Tryz.ntmps114
  go_wp2_with fail
  go_ret
  exact ⟨rfl,rfl⟩
 have g:Hid (gD k=-1):=by show _=_;unfold gD;rw [if_neg (by omega),if_neg h2,if_neg h3]
 have j:(k==0)=false:=by simp [h0]
 have u:(k==1)=false:=by simp [h1]
 have z:(k==2)=false:=by simp [h2]
 have q:(k==3)=false:=by simp [h3]
 clear h0 h1 h2 h3
 go_enter Tryz.func114,Tryz.ntmps114
 go_wp2_with fail
 go_ret
 exact ⟨aL g.out.symm,rfl⟩
theorem qC (bs:List Blk) (BA:Option Addr) (bn bc:Nat) (w:World) (H:RdC w w.heap.size (aa bs) (.slice BA bn bc)) (hn:bn<=1048576) :
  Calls Tryz.prog 39 #[.slice BA bn bc] w fun e w'=>∃A c,e = .returned (.slice A bn c)/\Own w.heap.size w' A bn c (bs.map Blk.kind)/\Below w.heap.size w w':=by
 have z:=H.blkN
 obtain ⟨G,Z⟩:=hd2 z H
 clear H z
 go_enter Tryz.func39,Tryz.ntmps39
 go_wp2_with fail
 go_loopw [3,4] (fun v i wr=>∃(k:Nat) (A:Option Addr) (c:Nat),k<=bn/\i = .int .i64 (k:Int)/\v = .slice A k c/\aJ w wr [.cel (aG ((bs.take k).map Blk.kind)) (.slice A k c)]) (fun _ i _=>bn - (intOf i).toNat)
 ·exact ⟨0,_,_,by omega,rfl,rfl,(aJ.refl w).pushNew 3 1⟩
 obtain ⟨k,A1,K,hk,rfl,rfl,hs⟩:=hrel
 have u:=Hd hs
 clear hs
 by_cases Q:k<bn
 ·have J:=dT (by omega:k<bn)
  have j:k<bs.length:=by rw [G.out];exact Q
  obtain ⟨bb,ob,EA,en,ec,rfl,B,U,c1,c2,Y⟩:=Z.out.blk (k:=k) j
  have q:=u.out.bel
  have W:=aK q B
  rw [←q.cell (p:=⟨bb,ob+k * 3,none⟩) B] at U
  have g:=Hd (show (bs.take (k+1)).map Blk.kind=(bs.take k).map Blk.kind++[(bs[k]?.getD Blk.zero).kind] from by rw [mq j,List.map_append];rfl)
  clear j q Y c1 c2
  generalize bs[k]?.getD Blk.zero=b at *
  obtain ⟨kd,it,es⟩:=b
  simp only at U g
  obtain ⟨i0,i1⟩:=ib (by omega:k<bn)
  go_wp2_with (at_builtin;refine dW rfl _ _ rfl _ (u.out.alloc _) 0 A1 k K ((bs.take k).map Blk.kind) kd _ (0,0) rfl rfl rfl (aI _ _) (by omega) ?_;intro g9 af w9 V R;have I:=Hd V;clear V R)
  go_roundw
  ·exact ⟨k+1,_,_,by omega,by go_num,rfl,by rw [g.out];exact I.out⟩
  simp [intOf];omega
 have D:k=bn:=by omega
 have J:=dF (by omega:bn<=k)
 have g:Hid (bs.take k=bs):=by show _=_;rw [D];exact List.take_of_length_le (by rw [G.out];exact Nat.le_refl _)
 rw [g.out] at u
 subst D
 go_wp2_with fail
 go_ret
 exact ⟨_,_,rfl,u.out.owned 0 rfl,u.out.bel⟩
theorem qD (d:Dev) (kinds place:List Int) (KA PA:Option Addr) (kn kc pn pc:Nat) (w:World) (hk:dE w KA kn kinds) (hp:dE w PA pn place) (_:pn<=pc) (_:pc<=1048576) :
  Calls Tryz.prog 38 #[.agg (dv d),.slice KA kn kc,.slice PA pn pc] w fun e w'=>e = .returned (.bool (tb (fA d kinds place)))/\Below w.heap.size w w':=by
 have ah:=Hd (aD (Below.refl w.heap.size w) (.cells (dv d) 36))
 have q:=Hd (aI w (.cells (dv d) 36))
 obtain ⟨HK,HP⟩:=hd2 hk hp
 clear hk hp
 cases u:dZ d with
 | false =>
  have I:Hid (¬fA d kinds place):=fun h=>by rw [h.dev] at u;cases u
  have H:=Hd u
  clear u
  go_enter Tryz.func38,Tryz.ntmps38
  go_upto_region 1 with fail
  generalize w.alloc (.cells (dv d) 36)=W0 at *
  obtain ⟨V,U,Z,x3,lx⟩:=bX (q.out)
  go_wp2_with fail
  refine (iV d _).mono ?_
  rw [H.out]
  rintro _ w1 ⟨rfl,B⟩
  have g:=Hd (aA ah.out B)
  have Q:=Hd (aC B q.out)
  clear B V U Z x3 lx
  go_wp2_with fail
  go_ret
  exact ⟨aO I.out,g.out⟩
 | true =>
  have H:=Hd u
  obtain ⟨hN,a6,a7⟩:=pM u
  have bP:=ay u
  clear u
  by_cases aq:kn<=64
  ·have be:decide ((64:Int)<(kn:Int))=false:=decide_eq_false (by omega)
   by_cases av:pn=kn
   ·subst av
    have dn:((pn:Int) != (pn:Int))=false:=by simp
    have a9:=nu (qy d) (by omega)
    go_enter Tryz.func38,Tryz.ntmps38
    go_upto_region 1 with fail
    generalize w.alloc (.cells (dv d) 36)=W0 at *
    obtain ⟨V,U,Z,x3,lx⟩:=bX (q.out)
    go_wp2_with fail
    refine (iV d _).mono ?_
    rw [H.out]
    rintro _ w1 ⟨rfl,B⟩
    have g:=Hd (aA ah.out B)
    have Q:=Hd (aC B q.out)
    clear B V U Z x3 lx
    have bh:=Hd ((aJ.refl w1).pushRowB (qy d))
    obtain ⟨V,U,Z,x3,lx⟩:=bX (Q.out)
    go_wp2_with fail
    clear V U Z x3 lx a9 hN
    go_loopw [8] (fun i wr=>∃k:Nat,k<=pn/\i = .int .i64 (k:Int)/\aJ w1 wr [rX w1.heap.size (qy d) (place.take k)]/\(∀j,j<k→az d (place[j]?.getD 0)=true/\bH d (place[j]?.getD 0)=gD (kinds[j]?.getD 0))/\(place.take k).Nodup) (fun i _=>pn - (intOf i).toNat)
    ·exact ⟨0,by omega,rfl,bh.out,fun j hj=>by omega,by simp⟩
    obtain ⟨k,hk,rfl,hs,al,aS⟩:=hrel
    obtain ⟨HS,W,Y⟩:=hd3 hs al aS
    have ai:=Hd (aA g.out hs.bel)
    clear hs al aS
    by_cases ag:k<pn
    ·have bq:=dT (by omega:k<pn)
     obtain ⟨bp,op,aQ,aj,aR⟩:=HP.out.2 (by omega)
     obtain ⟨bk,ok,aL,a0,aW⟩:=HK.out.2 (by omega)
     obtain ⟨bl,bf⟩:=hd2 aQ aL
     have aU:k<place.length:=by rw [HP.out.1];exact ag
     have ar:=Hd (bN (z:=0) aU)
     have D:Hid (¬(az d (place[k]?.getD 0)=true/\bH d (place[k]?.getD 0)=gD (kinds[k]?.getD 0))→¬fA d kinds place):=fun h h'=>h (h'.tile k (by rw [HK.out.1];exact ag))
     have R:Hid (place[k]?.getD 0∈place.take k→¬fA d kinds place):=fun h h'=>by
      have h1:=h'.once
      rw [←List.take_append_drop (k+1) place,ar.out] at h1
      exact (dh.1 (List.nodup_append.1 h1).1).2 h
     have HG:Hid (az d (place[k]?.getD 0)=true/\bH d (place[k]?.getD 0)=gD (kinds[k]?.getD 0)→∀j,j<k+1→az d (place[j]?.getD 0)=true/\bH d (place[j]?.getD 0)=gD (kinds[j]?.getD 0)):=fun h=>bU W.out h
     have aM:Hid (∀v,Below w.heap.size w v→v.cell? ⟨bp,op+k,none⟩=some (.int .i64 (place[k]?.getD 0))):=fun v hv=>(hv.cell (p:=⟨bp,op+k,none⟩) aj).trans (aR k ag)
     have bd:Hid (∀v,Below w.heap.size w v→v.cell? ⟨bk,ok+k,none⟩=some (.int .i64 (kinds[k]?.getD 0))):=fun v hv=>(hv.cell (p:=⟨bk,ok+k,none⟩) a0).trans (aW k ag)
     clear aR aW aU aQ aL
     obtain rfl:=bl.out
     obtain rfl:=bf.out
     generalize place[k]?.getD 0=t at *
     generalize kinds[k]?.getD 0=kd at *
     have a3:=uW kd
     obtain ⟨bt,ae⟩:∃b,gD kd=b:=⟨_,rfl⟩
     rw [ae] at a3 D HG
     have au:=Hd ae
     clear ae
     obtain ⟨i0,i1⟩:=ib (by omega:k<pn)
     have cp:=aM.out _ ai.out
     have aG:=aK ai.out aj
     obtain ⟨V,U,Z,x3,lx⟩:=bX (aC HS.out.bel Q.out)
     have ak:=Hd (fun (x:Sub wr)=>pQ d t x.v)
     obtain ⟨K,ax⟩:∃K,lF d t=K:=⟨_,rfl⟩
     have aZ:=Hd ax
     rw [ax] at ak
     clear ax
     go_upto_region 7 with fail
     have aT:=aX wr
     have bj:=aP wr
     refine wpB wr ?_
     repeat (go_big_quiet_step ((first
      | (go_at_call 113;with_reducible exact aN (ak.out _)))))
     refine wpQuiet_nil ?_
     rintro wq ⟨⟨w5,hD⟩,hw⟩
     replace hw:wq=w5:=hw
     subst hw
     clear aT bj
     have a8:=Hd (HS.out.below hD)
     have G:=Hd (aA ai.out hD)
     clear hD V U Z x3 lx cp aG
     have cp:=aM.out _ G.out
     have ck:=bd.out _ G.out
     have aG:=aK G.out aj
     have bG:=aK G.out a0
     cases ht:az d t with
     | false =>
      have hK:K=-1:=by rw [←aZ.out];unfold lF;rw [ht];rfl
      have I:=Hd (D.out (fun h=>by rw [h.1] at ht;cases ht))
      subst hK
      clear ht HG D R
      go_wp2_with fail
      go_ret
      exact ⟨aO I.out,G.out⟩
     | true =>
      have hK:K=bH d t:=by rw [←aZ.out];unfold lF;rw [if_pos ht]
      have a4:=wO d t
      obtain ⟨hd,h0,h1⟩:=aV.1 ht
      obtain ⟨hN,a6,a7⟩:=pM hd
      rw [hN] at h1
      obtain ⟨HT,bM⟩:=hd2 ht hK
      rw [←hK] at a4 D HG
      clear ht hd hN hK
      obtain ⟨T,rfl⟩:∃T:Nat,t=(T:Int):=⟨t.toNat,by omega⟩
      have hT:T<qy d:=by omega
      have k0:decide (K<0)=false:=decide_eq_false (by omega)
      by_cases J:K=bt
      ·have dK:(K != bt)=false:=by simp [J]
       obtain ⟨q1,q2,q3,q4⟩:=a8.out.truth 0 (k:=T) rfl hT
       have a1:=Hd q4
       have bK:bp≠w1.heap.size:=by have:=aK g.out aj;omega
       have iT:(T:Int)<(qy d:Int):=by omega
       have bJ:(0:Int)<=(T:Int):=by omega
       have bn:=Hd (HG.out ⟨HT.out,J⟩)
       clear q4 HG D J
       by_cases hm:(T:Int)∈place.take k
       ·have I:=Hd (R.out hm)
        rw [decide_eq_true hm] at q1
        clear R hm
        go_wp2_with fail
        refine (ny kd _).mono ?_
        rw [au.out]
        rintro _ w7 ⟨rfl,rfl⟩
        go_wp2_with fail
        go_ret
        exact ⟨aO I.out,G.out⟩
       have HM:=Hd hm
       rw [decide_eq_false hm] at q1
       clear R hm
       go_wp2_with fail
       refine (ny kd _).mono ?_
       rw [au.out]
       rintro _ w7 ⟨rfl,rfl⟩
       go_wp2_with fail
       go_roundw
       ·exact ⟨k+1,by omega,by go_num,by rw [ar.out];exact a1.out,bn.out,by rw [ar.out,dh];exact ⟨Y.out,HM.out⟩⟩
       simp [intOf];omega
      have dK:(K != bt)=true:=by simp [J]
      have I:=Hd (D.out (fun h=>J h.2))
      clear HG D R J
      go_wp2_with fail
      refine (ny kd _).mono ?_
      rw [au.out]
      rintro _ w7 ⟨rfl,rfl⟩
      go_wp2_with fail
      go_ret
      exact ⟨aO I.out,G.out⟩
    have aw:k=pn:=by omega
    have bq:=dF (by omega:pn<=k)
    have I:Hid (fA d kinds place):=⟨H.out,by rw [HK.out.1];exact aq,by rw [HP.out.1,HK.out.1],fun j hj=>W.out j (by rw [aw,←HK.out.1];exact hj),by
     have h:=Y.out
     rwa [aw,List.take_of_length_le (by rw [HP.out.1];exact Nat.le_refl _)] at h⟩
    clear W Y aw
    go_wp2_with fail
    go_ret
    exact ⟨dU I.out,ai.out⟩
   have dn:((pn:Int) != (kn:Int))=true:=by simp;omega
   have I:Hid (¬fA d kinds place):=fun h=>av (by rw [←HP.out.1,←HK.out.1];exact h.same)
   clear av hN
   go_enter Tryz.func38,Tryz.ntmps38
   go_upto_region 1 with fail
   generalize w.alloc (.cells (dv d) 36)=W0 at *
   obtain ⟨V,U,Z,x3,lx⟩:=bX (q.out)
   go_wp2_with fail
   refine (iV d _).mono ?_
   rw [H.out]
   rintro _ w1 ⟨rfl,B⟩
   have g:=Hd (aA ah.out B)
   have Q:=Hd (aC B q.out)
   clear B V U Z x3 lx
   go_wp2_with fail
   go_ret
   exact ⟨aO I.out,g.out⟩
  have be:decide ((64:Int)<(kn:Int))=true:=decide_eq_true (by omega)
  have I:Hid (¬fA d kinds place):=fun h=>aq (by rw [←HK.out.1];exact h.len)
  clear aq hN
  go_enter Tryz.func38,Tryz.ntmps38
  go_upto_region 1 with fail
  generalize w.alloc (.cells (dv d) 36)=W0 at *
  obtain ⟨V,U,Z,x3,lx⟩:=bX (q.out)
  go_wp2_with fail
  refine (iV d _).mono ?_
  rw [H.out]
  rintro _ w1 ⟨rfl,B⟩
  have g:=Hd (aA ah.out B)
  have Q:=Hd (aC B q.out)
  clear B V U Z x3 lx
  go_wp2_with fail
  go_ret
  exact ⟨aO I.out,g.out⟩
theorem yO (d:Dev) (src:Int) (ks:List Int) (r:Rou) (KA NA FA:Option Addr) (kn kc H nc fn fc:Nat) (w:World) (hk:dE w KA kn ks) (hn:dE w NA H r.nodes) (hf:dE w FA fn r.from_) (cF:kn<=1048576) (dI:H<=1048576) (dD:fn<=1048576) (cu:∀s∈ks,j4 s) :
  Calls Tryz.prog 118 #[.agg (dv d),.int .i64 src,.slice KA kn kc,.agg #[.slice NA H nc,.slice FA fn fc]] w fun e w'=>e = .returned (.bool (tb (dB d src ks r)))/\Below w.heap.size w w':=by
 obtain ⟨bv,HN,b6,dM⟩:=hd4 hk hn hf cu
 clear hk hn hf cu
 have b3:=Hd (aD (aD (Below.refl w.heap.size w) (.cells (dv d) 36)) (.cells #[.slice NA H nc,.slice FA fn fc] 114))
 have Z:=bS (.cells #[.slice NA H nc,.slice FA fn fc] 114) (aI w (.cells (dv d) 36))
 have V:=aI (w.alloc (.cells (dv d) 36)) (.cells #[.slice NA H nc,.slice FA fn fc] 114)
 simp only [World.size_alloc] at V
 obtain ⟨aT,aV⟩:=hd2 Z V
 clear Z V
 cases a3:inR (H:Int) 1 (ig d) with
 | false =>
  have HR:Hid (¬dB d src ks r):=fun h=>by
   have h1:=h.len
   rw [HN.out.1] at h1
   rw [aU.2 (by unfold ig;rw [if_pos h.dev];omega)] at a3
   cases a3
  have bK:=Hd a3
  clear a3
  go_enter Tryz.func118,Tryz.ntmps118
  go_upto_region 1 with fail
  generalize (w.alloc (.cells (dv d) 36)).alloc (.cells #[.slice NA H nc,.slice FA fn fc] 114)=W9 at *
  have Z:=aT.out
  have V:=aV.out
  obtain ⟨x0,x1,x2,x3⟩:=cs4 Z
  obtain ⟨y0,y1⟩:=cs2 V
  have U:=aB Z
  have ly:=aB V
  clear Z V
  have bD:=Hd (fun (x:Sub W9)=>gJ d x.v)
  have az:=Hd (fun (x:Sub W9)=>(by have h:=aj (H:Int) 1 (ig d) x.v;rwa [bK.out] at h:Calls Tryz.prog 83 #[.int .i64 (H:Int),.int .i64 1,.int .i64 (ig d)] x.v fun e w'=>e = .returned (.bool false)/\x.v=w'))
  have G:=aX W9
  have Y:=aP W9
  refine wpB W9 ?_
  repeat (go_big_quiet_step ((first
   | (go_at_call 116;with_reducible exact aN (bD.out _))
   | (go_at_call 83;with_reducible exact aR (az.out _)))))
  refine wpQuiet_nil ?_
  rintro wq ⟨⟨w5,B⟩,W⟩
  replace W:wq=w5:=W
  subst W
  clear G Y
  have bE:=Hd B
  have HD:=Hd (aA b3.out B)
  clear B x0 x1 x2 x3 y0 y1 U ly
  go_wp2_with fail
  go_ret
  exact ⟨aO HR.out,HD.out⟩
 | true =>
  have bK:=Hd a3
  have bH:=aU.1 a3
  have bl:dZ d=true:=by
   cases hd:dZ d with
   | true=>rfl
   | false=>unfold ig at bH;rw [hd] at bH;simp at bH;omega
  have bZ:=Hd bl
  have c0:=iG bl
  have hT:=ay bl
  have c2:0<=d.T:=by omega
  have c7:d.T<=1099511627776:=by omega
  obtain ⟨N,hN⟩:∃N:Nat,ig d=(N:Int):=⟨(ig d).toNat,by unfold ig;rw [if_pos bl];omega⟩
  have ds:N<=828:=by have h:=hN;unfold ig at h;rw [if_pos bl] at h;omega
  have bc:=Hd hN
  rw [hN] at bH
  clear a3 bl hN c0 hT
  by_cases c3:fn=H
  ·subst c3
   obtain ⟨H,rfl⟩:∃x,x=fn:=⟨fn,rfl⟩
   have d3:((H:Int) != (H:Int))=false:=by simp
   obtain ⟨bn,u,rfl,bs,cw⟩:=HN.out.2 (by omega)
   obtain ⟨bf,I,rfl,cp,co⟩:=b6.out.2 (by omega)
   have bg:Hid (∀k,k<H→∀v,Below w.heap.size w v→v.cell? ⟨bn,u+k,none⟩=some (.int .i64 (r.nodes[k]?.getD 0))):=fun k hk v J=>(J.cell (p:=⟨bn,u+k,none⟩) bs).trans (cw k hk)
   have cs:Hid (∀k,k<H→∀v,Below w.heap.size w v→v.cell? ⟨bf,I+k,none⟩=some (.int .i64 (r.from_[k]?.getD 0))):=fun k hk v J=>(J.cell (p:=⟨bf,I+k,none⟩) cp).trans (co k hk)
   clear cw co
   go_enter Tryz.func118,Tryz.ntmps118
   go_upto_region 1 with fail
   generalize (w.alloc (.cells (dv d) 36)).alloc (.cells #[.slice (some ⟨bn,u,none⟩) H nc,.slice (some ⟨bf,I,none⟩) H fc] 114)=W9 at *
   have Z:=aT.out
   have V:=aV.out
   obtain ⟨x0,x1,x2,x3⟩:=cs4 Z
   obtain ⟨y0,y1⟩:=cs2 V
   have U:=aB Z
   have ly:=aB V
   clear Z V
   have bD:=Hd (fun (x:Sub W9)=>gJ d x.v)
   have az:=Hd (fun (x:Sub W9)=>(by have h:=aj (H:Int) 1 (ig d) x.v;rwa [bK.out] at h:Calls Tryz.prog 83 #[.int .i64 (H:Int),.int .i64 1,.int .i64 (ig d)] x.v fun e w'=>e = .returned (.bool true)/\x.v=w'))
   have G:=aX W9
   have Y:=aP W9
   refine wpB W9 ?_
   repeat (go_big_quiet_step ((first
    | (go_at_call 116;with_reducible exact aN (bD.out _))
    | (go_at_call 83;with_reducible exact aR (az.out _)))))
   refine wpQuiet_nil ?_
   rintro wq ⟨⟨w5,B⟩,W⟩
   replace W:wq=w5:=W
   subst W
   clear G Y
   have bE:=Hd B
   have HD:=Hd (aA b3.out B)
   clear B x0 x1 x2 x3 y0 y1 U ly
   have Z:=aC bE.out aT.out
   have V:=aC bE.out aV.out
   obtain ⟨x0,x1,x2,x3⟩:=cs4 Z
   obtain ⟨y0,y1⟩:=cs2 V
   have U:=aB Z
   have ly:=aB V
   clear Z V
   go_wp2_with fail
   refine (gJ d _).mono ?_
   rw [bc.out]
   rintro _ wz ⟨rfl,bz⟩
   have aY:=Hd (aA bE.out bz)
   have c9:=Hd (aA HD.out bz)
   clear bz x0 x1 x2 x3 y0 y1 U ly HD
   have HD:=c9
   have cZ:=nu N (by omega)
   have dd:=Hd ((aJ.refl wz).pushRowB N)
   go_wp2_with fail
   clear cZ
   go_loopw [10] (fun i wr=>∃k:Nat,k<=H/\i = .int .i64 (k:Int)/\aJ wz wr [rX wz.heap.size N (r.nodes.take k)]/\(∀j,j<k→bI d (r.nodes[j]?.getD 0)=true/\(0<j→(0<=r.from_[j]?.getD 0/\r.from_[j]?.getD 0<(j:Int))/\r.nodes[(r.from_[j]?.getD 0).toNat]?.getD 0∈jT d (r.nodes[j]?.getD 0))/\(r.nodes[j]?.getD 0 % aQ d<5→r.nodes[j]?.getD 0∈ks))/\(r.nodes.take k).Nodup/\(0<k→(r.nodes[0]?.getD 0=src/\r.from_[0]?.getD 0=0/\(src % aQ d=5∨src % aQ d=6)))) (fun i _=>H - (intOf i).toNat)
   ·exact ⟨0,by omega,rfl,dd.out,fun j hj=>by omega,by simp,fun h=>by omega⟩
   obtain ⟨k,hk,rfl,hs,bT,cC,cv⟩:=hrel
   obtain ⟨HS,aw,be,bY⟩:=hd4 hs bT cC cv
   have ax:=Hd (aA HD.out hs.bel)
   clear hs bT cC cv
   have Z:=aC (aA aY.out HS.out.bel) aT.out
   have V:=aC (aA aY.out HS.out.bel) aV.out
   obtain ⟨x0,x1,x2,x3⟩:=cs4 Z
   obtain ⟨y0,y1⟩:=cs2 V
   have U:=aB Z
   have ly:=aB V
   clear Z V
   by_cases bh:k<H
   ·have de:=dT (by omega:k<H)
    have a5:k<r.nodes.length:=by rw [HN.out.1];exact bh
    have cn:=bg.out k bh _ ax.out
    have Q:=aK ax.out bs
    have aG:=Hd (bN (z:=0) a5)
    have cl:dB d src ks r→bI d (r.nodes[k]?.getD 0)=true/\r.nodes[k]?.getD 0∉r.nodes.take k/\(0<k→(0<=r.from_[k]?.getD 0/\r.from_[k]?.getD 0<(k:Int))/\r.nodes[(r.from_[k]?.getD 0).toNat]?.getD 0∈jT d (r.nodes[k]?.getD 0))/\(r.nodes[k]?.getD 0 % aQ d<5→r.nodes[k]?.getD 0∈ks):=fun h=>by
     refine ⟨?_,?_,fun h0=>h.step k h0 a5,?_⟩
     ·rw [List.getElem?_eq_getElem a5];exact h.node _ (List.getElem_mem a5)
     ·have h1:=h.once
      rw [←List.take_append_drop (k+1) r.nodes,aG.out] at h1
      exact (dh.1 (List.nodup_append.1 h1).1).2
     rw [List.getElem?_eq_getElem a5];exact h.pins _ (List.getElem_mem a5)
    have hg:bI d (r.nodes[k]?.getD 0)=true/\(0<k→(0<=r.from_[k]?.getD 0/\r.from_[k]?.getD 0<(k:Int))/\r.nodes[(r.from_[k]?.getD 0).toNat]?.getD 0∈jT d (r.nodes[k]?.getD 0))/\(r.nodes[k]?.getD 0 % aQ d<5→r.nodes[k]?.getD 0∈ks)→∀j,j<k+1→bI d (r.nodes[j]?.getD 0)=true/\(0<j→(0<=r.from_[j]?.getD 0/\r.from_[j]?.getD 0<(j:Int))/\r.nodes[(r.from_[j]?.getD 0).toNat]?.getD 0∈jT d (r.nodes[j]?.getD 0))/\(r.nodes[j]?.getD 0 % aQ d<5→r.nodes[j]?.getD 0∈ks):=fun h=>bU aw.out h
    obtain ⟨D,HG⟩:=hd2 cl hg
    clear cl hg a5
    obtain ⟨n,hn⟩:∃n,r.nodes[k]?.getD 0=n:=⟨_,rfl⟩
    rw [hn] at cn aG D HG
    have bL:=Hd hn
    clear hn
    obtain ⟨i0,i1⟩:=ib (by omega:k<H)
    have aL:=fun (x:Sub wr)=>iE d n x.v
    cases aH:bI d n with
    | false =>
     have HR:Hid (¬dB d src ks r):=fun h=>by have:=(D.out h).1;rw [this] at aH;cases aH
     rw [aH] at aL
     have bb:=Hd aL
     clear aL aH HG D
     go_upto_region 7 with fail
     have G:=aX wr
     have Y:=aP wr
     refine wpB wr ?_
     repeat (go_big_quiet_step ((first
      | (go_at_call 207;with_reducible exact aN (bb.out _)))))
     refine wpQuiet_nil ?_
     rintro wq ⟨⟨w5,B⟩,W⟩
     replace W:wq=w5:=W
     subst W
     clear G Y
     have bj:=Hd (aA ax.out B)
     clear B x0 x1 x2 x3 y0 y1 U ly cn Q
     go_wp2_with fail
     go_ret
     exact ⟨aO HR.out,bj.out⟩
    | true =>
     have hX:=mg.1 (show fD d n=true from by unfold bI at aH;rw [Bool.and_eq_true] at aH;exact aH.1)
     rw [bc.out] at hX
     rw [aH] at aL
     obtain ⟨bb,b2⟩:=hd2 aL aH
     clear aL aH
     obtain ⟨X,rfl⟩:∃X:Nat,n=(X:Int):=⟨n.toNat,by omega⟩
     have bO:X<N:=by omega
     obtain ⟨cK,c1⟩:=ib (by omega:X<N)
     obtain ⟨q1,q2,⟨bM,q3⟩,q4⟩:=HS.out.truth 0 (k:=X) rfl bO
     clear q4
     by_cases hm:(X:Int)∈r.nodes.take k
     ·have HR:Hid (¬dB d src ks r):=fun h=>(D.out h).2.1 hm
      rw [decide_eq_true hm] at q1
      clear HG D hm
      go_upto_region 7 with fail
      have G:=aX wr
      have Y:=aP wr
      refine wpB wr ?_
      repeat (go_big_quiet_step ((first
       | (go_at_call 207;with_reducible exact aN (bb.out _)))))
      refine wpQuiet_nil ?_
      rintro wq ⟨⟨w5,B⟩,W⟩
      replace W:wq=w5:=W
      subst W
      clear G Y
      have bj:=Hd (aA ax.out B)
      clear B x0 x1 x2 x3 y0 y1 U ly cn Q q1 q2 q3
      go_wp2_with fail
      go_ret
      exact ⟨aO HR.out,bj.out⟩
     rw [decide_eq_false hm] at q1
     have HM:=Hd hm
     clear hm
     go_upto_region 7 with fail
     have G:=aX wr
     have Y:=aP wr
     refine wpB wr ?_
     repeat (go_big_quiet_step ((first
      | (go_at_call 207;with_reducible exact aN (bb.out _)))))
     refine wpQuiet_nil ?_
     rintro wq ⟨⟨w5,B⟩,W⟩
     replace W:wq=w5:=W
     subst W
     clear G Y
     have b1:=Hd (HS.out.below B)
     have bj:=Hd (aA ax.out B)
     clear B x0 x1 x2 x3 y0 y1 U ly cn Q q1 q2 q3 bM
     obtain ⟨q1,q2,⟨bM,q3⟩,q4⟩:=b1.out.truth 0 (k:=X) rfl bO
     have bG:=Hd q4
     have hz:=aY.out.size
     have dp:=aB aT.out
     have dm:=aB aV.out
     clear q4
     have cn:=bg.out k bh _ bj.out
     have Q:=aK bj.out bs
     rw [bL.out] at cn
     have Z:=aC (aA aY.out b1.out.bel) aT.out
     have V:=aC (aA aY.out b1.out.bel) aV.out
     obtain ⟨x0,x1,x2,x3⟩:=cs4 Z
     obtain ⟨y0,y1⟩:=cs2 V
     have U:=aB Z
     have ly:=aB V
     clear Z V
     go_upto_region 10 with fail
     clear x0 x1 x2 x3 y0 y1 U ly cn Q q1 q2 q3 bM
     generalize dg:wq.setCell ⟨wz.heap.size,X,none⟩ (.bool true)=W6 at *
     clear dg
     have cJ:=Hd (aA HD.out bG.out.bel)
     have cn:=bg.out k bh _ cJ.out
     have Q:=aK cJ.out bs
     rw [bL.out] at cn
     have Z:=aC (aA aY.out bG.out.bel) aT.out
     have V:=aC (aA aY.out bG.out.bel) aV.out
     obtain ⟨x0,x1,x2,x3⟩:=cs4 Z
     obtain ⟨y0,y1⟩:=cs2 V
     have U:=aB Z
     have ly:=aB V
     clear Z V
     have cL:=eT bZ.out
     obtain ⟨p,hp⟩:∃p,aQ d=p:=⟨_,rfl⟩
     have br:=fun (x:Sub W6)=>eG d x.v c2 c7
     rw [hp] at br cL
     obtain ⟨ci,bx⟩:=hd2 br hp
     have e1:(X:Int).tmod p=(X:Int) % p:=Int.tmod_eq_emod_of_nonneg cK
     have e2:¬p=0:=by omega
     have du:0<=(X:Int) % p:=Int.emod_nonneg _ e2
     have dA:(X:Int) % p<p:=Int.emod_lt_of_pos _ (by omega)
     have e3:IntKind.i64.wrap ((X:Int) % p)=(X:Int) % p:=IntWalk.i64_in _ (by omega)
     clear br hp
     have G:=aX W6
     have Y:=aP W6
     refine wpB W6 ?_
     repeat (go_big_quiet_step ((first
      | (go_at_call 68;with_reducible exact aN (ci.out _)))))
     refine wpQuiet_nil ?_
     rintro wq ⟨⟨w5,B⟩,W⟩
     replace W:wq=w5:=W
     subst W
     clear G Y
     have av:=Hd (bG.out.below B)
     have ar:=Hd (aA HD.out av.out.bel)
     clear B x0 x1 x2 x3 y0 y1 U ly cn Q e1 e2 e3
     obtain ⟨W7,rfl⟩:∃x,x=wq:=⟨wq,rfl⟩
     have Q:=aK ar.out bs
     have aE:=aK ar.out cp
     have Z:=aC (aA aY.out av.out.bel) aT.out
     have V:=aC (aA aY.out av.out.bel) aV.out
     obtain ⟨x0,x1,x2,x3⟩:=cs4 Z
     obtain ⟨y0,y1⟩:=cs2 V
     have U:=aB Z
     have ly:=aB V
     clear Z V
     by_cases bJ:k=0
     ·have dk:((k:Int)==0)=true:=by simp [bJ]
      have cq:=bg.out 0 (by omega) _ ar.out
      have cz:=cs.out 0 (by omega) _ ar.out
      rw [Nat.add_zero] at cq cz
      have hE:=bL.out
      rw [bJ] at hE
      rw [hE] at cq
      obtain ⟨f0,b9⟩:∃x,r.from_[0]?.getD 0=x:=⟨_,rfl⟩
      rw [b9] at cz
      obtain ⟨HE,ct⟩:=hd2 hE b9
      have dl:(0:Int)<(H:Int):=by omega
      clear hE b9 D
      by_cases c4:(X:Int)=src
      ·have d4:((X:Int) != src)=false:=by simp [c4]
       by_cases c5:f0=0
       ·have d5:(f0 != 0)=false:=by simp [c5]
        by_cases c6:(X:Int) % p=5∨(X:Int) % p=6
        ·have aS:Hid (r.nodes[0]?.getD 0=src/\r.from_[0]?.getD 0=0/\(src % aQ d=5∨src % aQ d=6)):=⟨by rw [HE.out,c4],by rw [ct.out,c5],by rw [←c4,bx.out];exact c6⟩
         have a1:=Hd (HG.out ⟨b2.out,fun h=>by omega,fun h=>by rw [bx.out] at h;omega⟩)
         clear HG c4 c5
         rcases c6 with c6|c6
         ·have d6:((X:Int) % p != 5)=false:=by simp [c6]
          clear c6
          go_wp2_with fail
          go_roundw
          ·exact ⟨k+1,by omega,by go_num,by rw [aG.out];exact av.out,a1.out,by rw [aG.out,dh];exact ⟨be.out,HM.out⟩,fun _=>aS.out⟩
          simp [intOf];omega
         have d6:((X:Int) % p != 5)=true:=by simp [c6]
         have d7:((X:Int) % p != 6)=false:=by simp [c6]
         clear c6
         go_wp2_with fail
         go_roundw
         ·exact ⟨k+1,by omega,by go_num,by rw [aG.out];exact av.out,a1.out,by rw [aG.out,dh];exact ⟨be.out,HM.out⟩,fun _=>aS.out⟩
         simp [intOf];omega
        have HR:Hid (¬dB d src ks r):=fun h=>c6 (by have h1:=h.root.2.2;rwa [←c4,bx.out] at h1)
        have d6:((X:Int) % p != 5)=true:=by simp;omega
        have d7:((X:Int) % p != 6)=true:=by simp;omega
        clear HG c4 c5 c6
        go_wp2_with fail
        go_ret
        exact ⟨aO HR.out,ar.out⟩
       have HR:Hid (¬dB d src ks r):=fun h=>c5 (by rw [←ct.out];exact h.root.2.1)
       have d5:(f0 != 0)=true:=by simp [c5]
       clear HG c4 c5
       go_wp2_with fail
       go_ret
       exact ⟨aO HR.out,ar.out⟩
      have HR:Hid (¬dB d src ks r):=fun h=>c4 (by rw [←HE.out];exact h.root.1)
      have d4:((X:Int) != src)=true:=by simp [c4]
      clear HG c4
      go_wp2_with fail
      go_ret
      exact ⟨aO HR.out,ar.out⟩
     have dk:((k:Int)==0)=false:=by simp [bJ]
     have bQ:0<k:=by omega
     have cD:=Hd (bY.out bQ)
     have cn:=bg.out k bh _ ar.out
     have cf:=cs.out k bh _ ar.out
     rw [bL.out] at cn
     obtain ⟨f,hf⟩:∃f,r.from_[k]?.getD 0=f:=⟨_,rfl⟩
     rw [hf] at cf D HG
     clear hf bJ
     by_cases h0:f<0
     ·have HR:Hid (¬dB d src ks r):=fun h=>by have:=((D.out h).2.2.1 bQ).1;omega
      have d0:decide (f<0)=true:=decide_eq_true h0
      clear HG D h0
      go_upto_region 14 with fail
      have G:=aX W7
      have Y:=aP W7
      refine wpB W7 ?_
      repeat (go_big_quiet_step ((fail)))
      refine wpQuiet_nil ?_
      rintro wq ⟨⟨w5,B⟩,W⟩
      replace W:wq=w5:=W
      subst W
      clear G Y
      have ah:=Hd (av.out.below B)
      have aW:=Hd (aA HD.out ah.out.bel)
      clear B x0 x1 x2 x3 y0 y1 U ly cf aE cn Q
      go_wp2_with fail
      go_ret
      exact ⟨aO HR.out,aW.out⟩
     have d0:decide (f<0)=false:=decide_eq_false h0
     by_cases h1:(k:Int)<=f
     ·have HR:Hid (¬dB d src ks r):=fun h=>by have:=((D.out h).2.2.1 bQ).1;omega
      have d1:decide ((k:Int)<=f)=true:=decide_eq_true h1
      have cc:decide (f≥(k:Int))=true:=decide_eq_true h1
      clear HG D h0 h1
      go_upto_region 14 with fail
      have G:=aX W7
      have Y:=aP W7
      refine wpB W7 ?_
      repeat (go_big_quiet_step ((fail)))
      refine wpQuiet_nil ?_
      rintro wq ⟨⟨w5,B⟩,W⟩
      replace W:wq=w5:=W
      subst W
      clear G Y
      have ah:=Hd (av.out.below B)
      have aW:=Hd (aA HD.out ah.out.bel)
      clear B x0 x1 x2 x3 y0 y1 U ly cf aE cn Q
      go_wp2_with fail
      go_ret
      exact ⟨aO HR.out,aW.out⟩
     have d1:decide ((k:Int)<=f)=false:=decide_eq_false h1
     have cc:decide (f≥(k:Int))=false:=decide_eq_false h1
     obtain ⟨F,rfl⟩:∃F:Nat,f=(F:Int):=⟨f.toNat,by omega⟩
     have hF:F<k:=by omega
     have dz:decide (k<=F)=false:=decide_eq_false (by omega)
     have cy:=bg.out F (by omega) _ ar.out
     rw [Int.toNat_natCast] at D HG
     obtain ⟨y,V⟩:∃y,r.nodes[F]?.getD 0=y:=⟨_,rfl⟩
     rw [V] at cy D HG
     obtain ⟨dH,iF⟩:=ib (by omega:F<H)
     have cA:Hid ((0<=(F:Int)/\(F:Int)<(k:Int))):=⟨by omega,by omega⟩
     have bd:=Hd (fun (v:World) (_:Below W7.heap.size W7 v)=>xQ d (X:Int) v)
     clear V h0 h1
     by_cases hb:y∈jT d (X:Int)
     ·have bA:=decide_eq_true hb
      have cE:=Hd hb
      have bw:=Hd (fun (A:Option Addr) (m c:Nat) (v:World) (h:dE v A m (jT d (X:Int))) (hm:m<=1048576)=>(by have h2:=nI A m c (jT d (X:Int)) y v h hm;rwa [bA] at h2:Calls Tryz.prog 208 #[.slice A m c,.int .i64 y] v fun e w'=>e = .returned (.bool true)/\v=w'))
      clear bA hb
      by_cases h5:(X:Int) % p<5
      ·have d5:decide ((X:Int) % p<5)=true:=decide_eq_true h5
       by_cases hq:(X:Int)∈ks
       ·have bu:=decide_eq_true hq
        have b8:=Hd (fun (v:World) (J:Below W7.heap.size W7 v)=>(by have h2:=nI KA kn kc ks (X:Int) v (bv.out.below (aA ar.out J)) cF;rwa [bu] at h2:Calls Tryz.prog 208 #[.slice KA kn kc,.int .i64 (X:Int)] v fun e w'=>e = .returned (.bool true)/\v=w'))
        have a1:=Hd (HG.out ⟨b2.out,fun _=>⟨cA.out,cE.out⟩,fun _=>hq⟩)
        clear HG D bu hq h5
        have B:=(Below.refl W7.heap.size W7).drew
        have g:Hid (∀w',Below W7.heap.size W7 w'→(KD w' w.heap.size d (w'.cell? ⟨w.heap.size+1,0,none⟩=some (.slice (some ⟨bn,u,none⟩) H nc)/\w'.cell? ⟨w.heap.size+1,1,none⟩=some (.slice (some ⟨bf,I,none⟩) H fc)/\w'.cell? ⟨bn,u+k,none⟩=some (.int .i64 (X:Int))/\w'.cell? ⟨bf,I+k,none⟩=some (.int .i64 (F:Int))/\w'.cell? ⟨bn,u+F,none⟩=some (.int .i64 y)))):=fun v J=>⟨(J.cell (p:=⟨w.heap.size,0,none⟩) U).trans x0,(J.cell (p:=⟨w.heap.size,1,none⟩) U).trans x1,(J.cell (p:=⟨w.heap.size,2,none⟩) U).trans x2,(J.cell (p:=⟨w.heap.size,3,none⟩) U).trans x3,(J.cell (p:=⟨w.heap.size+1,0,none⟩) ly).trans y0,(J.cell (p:=⟨w.heap.size+1,1,none⟩) ly).trans y1,(J.cell (p:=⟨bn,u+k,none⟩) Q).trans cn,(J.cell (p:=⟨bf,I+k,none⟩) aE).trans cf,(J.cell (p:=⟨bn,u+F,none⟩) Q).trans cy⟩
        go_upto_region 14 with fail
        refine wp_region_held_drew (S:=(fun w'=>KD w' w.heap.size d (w'.cell? ⟨w.heap.size+1,0,none⟩=some (.slice (some ⟨bn,u,none⟩) H nc)/\w'.cell? ⟨w.heap.size+1,1,none⟩=some (.slice (some ⟨bf,I,none⟩) H fc)/\w'.cell? ⟨bn,u+k,none⟩=some (.int .i64 (X:Int))/\w'.cell? ⟨bf,I+k,none⟩=some (.int .i64 (F:Int))/\w'.cell? ⟨bn,u+F,none⟩=some (.int .i64 y)))) (by kernel_rfl) ?_ (fun hHeld=>?_)
        ·(try dsimp only)
         first|exact g.out _ B
        refine onW 0 opA hHeld ?_
        refine onW 1 (opB opA) hHeld ?_
        refine onW 2 (opB (opB opA)) hHeld ?_
        refine onW 3 (opB (opB (opB opA))) hHeld ?_
        refine onW 4 (opC opA) hHeld ?_
        refine onW 5 (opC (opB opA)) hHeld ?_
        refine onW 6 (opC (opB (opB opA))) hHeld ?_
        refine onW 7 (opC (opB (opB (opB opA)))) hHeld ?_
        refine onW 8 (opC (opC opA)) hHeld ?_
        refine onW 9 (opC (opC (opB opA))) hHeld ?_
        refine onW 10 (opC (opC (opB (opB opA)))) hHeld ?_
        refine onW 11 (opC (opC (opB (opB (opB opA))))) hHeld ?_
        refine onW 12 (opC (opC (opC opA))) hHeld ?_
        refine onW 13 (opC (opC (opC (opB opA)))) hHeld ?_
        refine onW 14 (opC (opC (opC (opB (opB opA))))) hHeld ?_
        refine onW 15 (opC (opC (opC (opB (opB (opB opA)))))) hHeld ?_
        refine onW 16 (opD opA) hHeld ?_
        refine onW 17 (opD (opB opA)) hHeld ?_
        refine onW 18 (opD (opB (opB opA))) hHeld ?_
        refine onW 19 (opD (opB (opB (opB opA)))) hHeld ?_
        refine onW 20 (opD (opC opA)) hHeld ?_
        refine onW 21 (opD (opC (opB opA))) hHeld ?_
        refine onW 23 (opD (opC (opB (opB (opB opA))))) hHeld ?_
        refine onW 24 (opD (opC (opC opA))) hHeld ?_
        refine onW 25 (opD (opC (opC (opB opA)))) hHeld ?_
        refine onW 26 (opD (opC (opC (opB (opB opA))))) hHeld ?_
        refine onW 27 (opD (opC (opC (opB (opB (opB opA)))))) hHeld ?_
        refine onW 28 (opD (opC (opC (opC opA)))) hHeld ?_
        refine onW 29 (opD (opC (opC (opC (opB opA))))) hHeld ?_
        refine onW 30 (opD (opC (opC (opC (opB (opB opA)))))) hHeld ?_
        refine onW 31 (opD (opC (opC (opC (opB (opB (opB opA))))))) hHeld ?_
        refine iZ (i:=22) (opD (opC (opB (opB opA)))) (fun K R=>?_)
        go_simp
        (go_at_call 146;(with_reducible refine (bd.out _ B).mono ?_);rintro e5 w5 ⟨A5,n5,c5,rfl,o5,b5⟩;have O5:=Hd o5.ints;have a8:n5<=1048576:=(by have h5:=o5.len;have h6:=pO d (X:Int);omega);replace B:=aA B b5;clear b5 o5)
        first|refine R.out _ _ ?_ (fun hHeld=>?_)|(go_wp2_with fail;refine R.out _ _ ?_ (fun hHeld=>?_))
        ·(try dsimp only)
         first|exact g.out _ B
        clear R K
        try simp only [Act.put,List.setIfInBounds_toArray,List.set_cons_zero,List.set_cons_succ]
        refine iZ (i:=32) (opD (opD opA)) (fun K R=>?_)
        go_simp
        (go_at_call 208;(with_reducible refine (bw.out A5 n5 c5 _ O5.out a8).mono ?_);rintro _ wi ⟨rfl,rfl⟩)
        first|refine R.out _ _ ?_ (fun hHeld=>?_)|(go_wp2_with fail;refine R.out _ _ ?_ (fun hHeld=>?_))
        ·(try dsimp only)
         first|exact g.out _ B
        clear R K
        try simp only [Act.put,List.setIfInBounds_toArray,List.set_cons_zero,List.set_cons_succ]
        refine onW 33 (opD (opD (opB opA))) hHeld ?_
        refine onW 34 (opD (opD (opB (opB opA)))) hHeld ?_
        refine onW 35 (opD (opD (opB (opB (opB opA))))) hHeld ?_
        refine onW 36 (opD (opD (opC opA))) hHeld ?_
        refine onW 37 (opD (opD (opC (opB opA)))) hHeld ?_
        refine onW 38 (opD (opD (opC (opB (opB opA))))) hHeld ?_
        refine onW 39 (opD (opD (opC (opB (opB (opB opA)))))) hHeld ?_
        refine onW 40 (opD (opD (opC (opC opA)))) hHeld ?_
        refine onW 41 (opD (opD (opC (opC (opB opA))))) hHeld ?_
        refine onW 42 (opD (opD (opC (opC (opB (opB opA)))))) hHeld ?_
        refine onW 43 (opD (opD (opC (opC (opB (opB (opB opA))))))) hHeld ?_
        refine onW 44 (opD (opD (opC (opC (opC opA))))) hHeld ?_
        refine iZ (i:=45) (opD (opD (opC (opC (opC (opB opA)))))) (fun K R=>?_)
        go_simp
        (go_at_call 208;(with_reducible refine (b8.out _ B).mono ?_);rintro _ wi ⟨rfl,rfl⟩)
        first|refine R.out _ _ ?_ (fun hHeld=>?_)|(go_wp2_with fail;refine R.out _ _ ?_ (fun hHeld=>?_))
        ·(try dsimp only)
         first|exact g.out _ B
        clear R K
        try simp only [Act.put,List.setIfInBounds_toArray,List.set_cons_zero,List.set_cons_succ]
        refine onW 46 (opD (opD (opC (opC (opC (opB (opB opA))))))) hHeld ?_
        refine onW 47 (opD (opD (opC (opC (opC (opB (opB (opB opA)))))))) hHeld ?_
        refine onW 48 (opD (opD (opD opA))) hHeld ?_
        refine wpAnyH_done (by kernel_rfl) ?_ _
        have ah:=Hd (av.out.below B)
        have aW:=Hd (aA HD.out ah.out.bel)
        clear B x0 x1 x2 x3 y0 y1 U ly cn cf cy Q aE g
        go_wp2_with fail
        go_roundw
        ·exact ⟨k+1,by omega,by go_num,by rw [aG.out];exact ah.out,a1.out,by rw [aG.out,dh];exact ⟨be.out,HM.out⟩,fun _=>cD.out⟩
        simp [intOf];omega
       have bu:=decide_eq_false hq
       have HR:Hid (¬dB d src ks r):=fun h=>hq ((D.out h).2.2.2 (by rw [bx.out];exact h5))
       have b8:=Hd (fun (v:World) (J:Below W7.heap.size W7 v)=>(by have h2:=nI KA kn kc ks (X:Int) v (bv.out.below (aA ar.out J)) cF;rwa [bu] at h2:Calls Tryz.prog 208 #[.slice KA kn kc,.int .i64 (X:Int)] v fun e w'=>e = .returned (.bool false)/\v=w'))
       clear HG D bu hq h5
       have B:=(Below.refl W7.heap.size W7).drew
       have g:Hid (∀w',Below W7.heap.size W7 w'→(KD w' w.heap.size d (w'.cell? ⟨w.heap.size+1,0,none⟩=some (.slice (some ⟨bn,u,none⟩) H nc)/\w'.cell? ⟨w.heap.size+1,1,none⟩=some (.slice (some ⟨bf,I,none⟩) H fc)/\w'.cell? ⟨bn,u+k,none⟩=some (.int .i64 (X:Int))/\w'.cell? ⟨bf,I+k,none⟩=some (.int .i64 (F:Int))/\w'.cell? ⟨bn,u+F,none⟩=some (.int .i64 y)))):=fun v J=>⟨(J.cell (p:=⟨w.heap.size,0,none⟩) U).trans x0,(J.cell (p:=⟨w.heap.size,1,none⟩) U).trans x1,(J.cell (p:=⟨w.heap.size,2,none⟩) U).trans x2,(J.cell (p:=⟨w.heap.size,3,none⟩) U).trans x3,(J.cell (p:=⟨w.heap.size+1,0,none⟩) ly).trans y0,(J.cell (p:=⟨w.heap.size+1,1,none⟩) ly).trans y1,(J.cell (p:=⟨bn,u+k,none⟩) Q).trans cn,(J.cell (p:=⟨bf,I+k,none⟩) aE).trans cf,(J.cell (p:=⟨bn,u+F,none⟩) Q).trans cy⟩
       go_upto_region 14 with fail
       refine wp_region_held_drew (S:=(fun w'=>KD w' w.heap.size d (w'.cell? ⟨w.heap.size+1,0,none⟩=some (.slice (some ⟨bn,u,none⟩) H nc)/\w'.cell? ⟨w.heap.size+1,1,none⟩=some (.slice (some ⟨bf,I,none⟩) H fc)/\w'.cell? ⟨bn,u+k,none⟩=some (.int .i64 (X:Int))/\w'.cell? ⟨bf,I+k,none⟩=some (.int .i64 (F:Int))/\w'.cell? ⟨bn,u+F,none⟩=some (.int .i64 y)))) (by kernel_rfl) ?_ (fun hHeld=>?_)
       ·(try dsimp only)
        first|exact g.out _ B
       refine onW 0 opA hHeld ?_
       refine onW 1 (opB opA) hHeld ?_
       refine onW 2 (opB (opB opA)) hHeld ?_
       refine onW 3 (opB (opB (opB opA))) hHeld ?_
       refine onW 4 (opC opA) hHeld ?_
       refine onW 5 (opC (opB opA)) hHeld ?_
       refine onW 6 (opC (opB (opB opA))) hHeld ?_
       refine onW 7 (opC (opB (opB (opB opA)))) hHeld ?_
       refine onW 8 (opC (opC opA)) hHeld ?_
       refine onW 9 (opC (opC (opB opA))) hHeld ?_
       refine onW 10 (opC (opC (opB (opB opA)))) hHeld ?_
       refine onW 11 (opC (opC (opB (opB (opB opA))))) hHeld ?_
       refine onW 12 (opC (opC (opC opA))) hHeld ?_
       refine onW 13 (opC (opC (opC (opB opA)))) hHeld ?_
       refine onW 14 (opC (opC (opC (opB (opB opA))))) hHeld ?_
       refine onW 15 (opC (opC (opC (opB (opB (opB opA)))))) hHeld ?_
       refine onW 16 (opD opA) hHeld ?_
       refine onW 17 (opD (opB opA)) hHeld ?_
       refine onW 18 (opD (opB (opB opA))) hHeld ?_
       refine onW 19 (opD (opB (opB (opB opA)))) hHeld ?_
       refine onW 20 (opD (opC opA)) hHeld ?_
       refine onW 21 (opD (opC (opB opA))) hHeld ?_
       refine onW 23 (opD (opC (opB (opB (opB opA))))) hHeld ?_
       refine onW 24 (opD (opC (opC opA))) hHeld ?_
       refine onW 25 (opD (opC (opC (opB opA)))) hHeld ?_
       refine onW 26 (opD (opC (opC (opB (opB opA))))) hHeld ?_
       refine onW 27 (opD (opC (opC (opB (opB (opB opA)))))) hHeld ?_
       refine onW 28 (opD (opC (opC (opC opA)))) hHeld ?_
       refine onW 29 (opD (opC (opC (opC (opB opA))))) hHeld ?_
       refine onW 30 (opD (opC (opC (opC (opB (opB opA)))))) hHeld ?_
       refine onW 31 (opD (opC (opC (opC (opB (opB (opB opA))))))) hHeld ?_
       refine iZ (i:=22) (opD (opC (opB (opB opA)))) (fun K R=>?_)
       go_simp
       (go_at_call 146;(with_reducible refine (bd.out _ B).mono ?_);rintro e5 w5 ⟨A5,n5,c5,rfl,o5,b5⟩;have O5:=Hd o5.ints;have a8:n5<=1048576:=(by have h5:=o5.len;have h6:=pO d (X:Int);omega);replace B:=aA B b5;clear b5 o5)
       first|refine R.out _ _ ?_ (fun hHeld=>?_)|(go_wp2_with fail;refine R.out _ _ ?_ (fun hHeld=>?_))
       ·(try dsimp only)
        first|exact g.out _ B
       clear R K
       try simp only [Act.put,List.setIfInBounds_toArray,List.set_cons_zero,List.set_cons_succ]
       refine iZ (i:=32) (opD (opD opA)) (fun K R=>?_)
       go_simp
       (go_at_call 208;(with_reducible refine (bw.out A5 n5 c5 _ O5.out a8).mono ?_);rintro _ wi ⟨rfl,rfl⟩)
       first|refine R.out _ _ ?_ (fun hHeld=>?_)|(go_wp2_with fail;refine R.out _ _ ?_ (fun hHeld=>?_))
       ·(try dsimp only)
        first|exact g.out _ B
       clear R K
       try simp only [Act.put,List.setIfInBounds_toArray,List.set_cons_zero,List.set_cons_succ]
       refine onW 33 (opD (opD (opB opA))) hHeld ?_
       refine onW 34 (opD (opD (opB (opB opA)))) hHeld ?_
       refine onW 35 (opD (opD (opB (opB (opB opA))))) hHeld ?_
       refine onW 36 (opD (opD (opC opA))) hHeld ?_
       refine onW 37 (opD (opD (opC (opB opA)))) hHeld ?_
       refine onW 38 (opD (opD (opC (opB (opB opA))))) hHeld ?_
       refine onW 39 (opD (opD (opC (opB (opB (opB opA)))))) hHeld ?_
       refine onW 40 (opD (opD (opC (opC opA)))) hHeld ?_
       refine onW 41 (opD (opD (opC (opC (opB opA))))) hHeld ?_
       refine onW 42 (opD (opD (opC (opC (opB (opB opA)))))) hHeld ?_
       refine onW 43 (opD (opD (opC (opC (opB (opB (opB opA))))))) hHeld ?_
       refine onW 44 (opD (opD (opC (opC (opC opA))))) hHeld ?_
       refine iZ (i:=45) (opD (opD (opC (opC (opC (opB opA)))))) (fun K R=>?_)
       go_simp
       (go_at_call 208;(with_reducible refine (b8.out _ B).mono ?_);rintro _ wi ⟨rfl,rfl⟩)
       first|refine R.out _ _ ?_ (fun hHeld=>?_)|(go_wp2_with fail;refine R.out _ _ ?_ (fun hHeld=>?_))
       ·(try dsimp only)
        first|exact g.out _ B
       clear R K
       try simp only [Act.put,List.setIfInBounds_toArray,List.set_cons_zero,List.set_cons_succ]
       refine onW 46 (opD (opD (opC (opC (opC (opB (opB opA))))))) hHeld ?_
       refine onW 47 (opD (opD (opC (opC (opC (opB (opB (opB opA)))))))) hHeld ?_
       refine onW 48 (opD (opD (opD opA))) hHeld ?_
       refine wpAnyH_done (by kernel_rfl) ?_ _
       have ah:=Hd (av.out.below B)
       have aW:=Hd (aA HD.out ah.out.bel)
       clear B x0 x1 x2 x3 y0 y1 U ly cn cf cy Q aE g
       go_wp2_with fail
       go_ret
       exact ⟨aO HR.out,aW.out⟩
      have d5:decide ((X:Int) % p<5)=false:=decide_eq_false h5
      have a1:=Hd (HG.out ⟨b2.out,fun _=>⟨cA.out,cE.out⟩,fun h=>absurd (by rwa [bx.out] at h) h5⟩)
      clear HG D h5
      have B:=(Below.refl W7.heap.size W7).drew
      have g:Hid (∀w',Below W7.heap.size W7 w'→(KD w' w.heap.size d (w'.cell? ⟨w.heap.size+1,0,none⟩=some (.slice (some ⟨bn,u,none⟩) H nc)/\w'.cell? ⟨w.heap.size+1,1,none⟩=some (.slice (some ⟨bf,I,none⟩) H fc)/\w'.cell? ⟨bn,u+k,none⟩=some (.int .i64 (X:Int))/\w'.cell? ⟨bf,I+k,none⟩=some (.int .i64 (F:Int))/\w'.cell? ⟨bn,u+F,none⟩=some (.int .i64 y)))):=fun v J=>⟨(J.cell (p:=⟨w.heap.size,0,none⟩) U).trans x0,(J.cell (p:=⟨w.heap.size,1,none⟩) U).trans x1,(J.cell (p:=⟨w.heap.size,2,none⟩) U).trans x2,(J.cell (p:=⟨w.heap.size,3,none⟩) U).trans x3,(J.cell (p:=⟨w.heap.size+1,0,none⟩) ly).trans y0,(J.cell (p:=⟨w.heap.size+1,1,none⟩) ly).trans y1,(J.cell (p:=⟨bn,u+k,none⟩) Q).trans cn,(J.cell (p:=⟨bf,I+k,none⟩) aE).trans cf,(J.cell (p:=⟨bn,u+F,none⟩) Q).trans cy⟩
      go_upto_region 14 with fail
      refine wp_region_held_drew (S:=(fun w'=>KD w' w.heap.size d (w'.cell? ⟨w.heap.size+1,0,none⟩=some (.slice (some ⟨bn,u,none⟩) H nc)/\w'.cell? ⟨w.heap.size+1,1,none⟩=some (.slice (some ⟨bf,I,none⟩) H fc)/\w'.cell? ⟨bn,u+k,none⟩=some (.int .i64 (X:Int))/\w'.cell? ⟨bf,I+k,none⟩=some (.int .i64 (F:Int))/\w'.cell? ⟨bn,u+F,none⟩=some (.int .i64 y)))) (by kernel_rfl) ?_ (fun hHeld=>?_)
      ·(try dsimp only)
       first|exact g.out _ B
      refine onW 0 opA hHeld ?_
      refine onW 1 (opB opA) hHeld ?_
      refine onW 2 (opB (opB opA)) hHeld ?_
      refine onW 3 (opB (opB (opB opA))) hHeld ?_
      refine onW 4 (opC opA) hHeld ?_
      refine onW 5 (opC (opB opA)) hHeld ?_
      refine onW 6 (opC (opB (opB opA))) hHeld ?_
      refine onW 7 (opC (opB (opB (opB opA)))) hHeld ?_
      refine onW 8 (opC (opC opA)) hHeld ?_
      refine onW 9 (opC (opC (opB opA))) hHeld ?_
      refine onW 10 (opC (opC (opB (opB opA)))) hHeld ?_
      refine onW 11 (opC (opC (opB (opB (opB opA))))) hHeld ?_
      refine onW 12 (opC (opC (opC opA))) hHeld ?_
      refine onW 13 (opC (opC (opC (opB opA)))) hHeld ?_
      refine onW 14 (opC (opC (opC (opB (opB opA))))) hHeld ?_
      refine onW 15 (opC (opC (opC (opB (opB (opB opA)))))) hHeld ?_
      refine onW 16 (opD opA) hHeld ?_
      refine onW 17 (opD (opB opA)) hHeld ?_
      refine onW 18 (opD (opB (opB opA))) hHeld ?_
      refine onW 19 (opD (opB (opB (opB opA)))) hHeld ?_
      refine onW 20 (opD (opC opA)) hHeld ?_
      refine onW 21 (opD (opC (opB opA))) hHeld ?_
      refine onW 23 (opD (opC (opB (opB (opB opA))))) hHeld ?_
      refine onW 24 (opD (opC (opC opA))) hHeld ?_
      refine onW 25 (opD (opC (opC (opB opA)))) hHeld ?_
      refine onW 26 (opD (opC (opC (opB (opB opA))))) hHeld ?_
      refine onW 27 (opD (opC (opC (opB (opB (opB opA)))))) hHeld ?_
      refine onW 28 (opD (opC (opC (opC opA)))) hHeld ?_
      refine onW 29 (opD (opC (opC (opC (opB opA))))) hHeld ?_
      refine onW 30 (opD (opC (opC (opC (opB (opB opA)))))) hHeld ?_
      refine onW 31 (opD (opC (opC (opC (opB (opB (opB opA))))))) hHeld ?_
      refine iZ (i:=22) (opD (opC (opB (opB opA)))) (fun K R=>?_)
      go_simp
      (go_at_call 146;(with_reducible refine (bd.out _ B).mono ?_);rintro e5 w5 ⟨A5,n5,c5,rfl,o5,b5⟩;have O5:=Hd o5.ints;have a8:n5<=1048576:=(by have h5:=o5.len;have h6:=pO d (X:Int);omega);replace B:=aA B b5;clear b5 o5)
      first|refine R.out _ _ ?_ (fun hHeld=>?_)|(go_wp2_with fail;refine R.out _ _ ?_ (fun hHeld=>?_))
      ·(try dsimp only)
       first|exact g.out _ B
      clear R K
      try simp only [Act.put,List.setIfInBounds_toArray,List.set_cons_zero,List.set_cons_succ]
      refine iZ (i:=32) (opD (opD opA)) (fun K R=>?_)
      go_simp
      (go_at_call 208;(with_reducible refine (bw.out A5 n5 c5 _ O5.out a8).mono ?_);rintro _ wi ⟨rfl,rfl⟩)
      first|refine R.out _ _ ?_ (fun hHeld=>?_)|(go_wp2_with fail;refine R.out _ _ ?_ (fun hHeld=>?_))
      ·(try dsimp only)
       first|exact g.out _ B
      clear R K
      try simp only [Act.put,List.setIfInBounds_toArray,List.set_cons_zero,List.set_cons_succ]
      refine onW 33 (opD (opD (opB opA))) hHeld ?_
      refine onW 34 (opD (opD (opB (opB opA)))) hHeld ?_
      refine onW 35 (opD (opD (opB (opB (opB opA))))) hHeld ?_
      refine onW 36 (opD (opD (opC opA))) hHeld ?_
      refine onW 37 (opD (opD (opC (opB opA)))) hHeld ?_
      refine onW 38 (opD (opD (opC (opB (opB opA))))) hHeld ?_
      refine bW 39 (opD (opD (opC (opB (opB (opB opA)))))) hHeld ?_
      refine bW 40 (opD (opD (opC (opC opA)))) hHeld ?_
      refine bW 41 (opD (opD (opC (opC (opB opA))))) hHeld ?_
      refine bW 42 (opD (opD (opC (opC (opB (opB opA)))))) hHeld ?_
      refine bW 43 (opD (opD (opC (opC (opB (opB (opB opA))))))) hHeld ?_
      refine bW 44 (opD (opD (opC (opC (opC opA))))) hHeld ?_
      refine bW 45 (opD (opD (opC (opC (opC (opB opA)))))) hHeld ?_
      refine bW 46 (opD (opD (opC (opC (opC (opB (opB opA))))))) hHeld ?_
      refine onW 47 (opD (opD (opC (opC (opC (opB (opB (opB opA)))))))) hHeld ?_
      refine onW 48 (opD (opD (opD opA))) hHeld ?_
      refine wpAnyH_done (by kernel_rfl) ?_ _
      have ah:=Hd (av.out.below B)
      have aW:=Hd (aA HD.out ah.out.bel)
      clear B x0 x1 x2 x3 y0 y1 U ly cn cf cy Q aE g
      go_wp2_with fail
      go_roundw
      ·exact ⟨k+1,by omega,by go_num,by rw [aG.out];exact ah.out,a1.out,by rw [aG.out,dh];exact ⟨be.out,HM.out⟩,fun _=>cD.out⟩
      simp [intOf];omega
     have bA:=decide_eq_false hb
     have HR:Hid (¬dB d src ks r):=fun h=>hb ((D.out h).2.2.1 bQ).2
     have bw:=Hd (fun (A:Option Addr) (m c:Nat) (v:World) (h:dE v A m (jT d (X:Int))) (hm:m<=1048576)=>(by have h2:=nI A m c (jT d (X:Int)) y v h hm;rwa [bA] at h2:Calls Tryz.prog 208 #[.slice A m c,.int .i64 y] v fun e w'=>e = .returned (.bool false)/\v=w'))
     clear HG D bA hb
     have B:=(Below.refl W7.heap.size W7).drew
     have g:Hid (∀w',Below W7.heap.size W7 w'→(KD w' w.heap.size d (w'.cell? ⟨w.heap.size+1,0,none⟩=some (.slice (some ⟨bn,u,none⟩) H nc)/\w'.cell? ⟨w.heap.size+1,1,none⟩=some (.slice (some ⟨bf,I,none⟩) H fc)/\w'.cell? ⟨bn,u+k,none⟩=some (.int .i64 (X:Int))/\w'.cell? ⟨bf,I+k,none⟩=some (.int .i64 (F:Int))/\w'.cell? ⟨bn,u+F,none⟩=some (.int .i64 y)))):=fun v J=>⟨(J.cell (p:=⟨w.heap.size,0,none⟩) U).trans x0,(J.cell (p:=⟨w.heap.size,1,none⟩) U).trans x1,(J.cell (p:=⟨w.heap.size,2,none⟩) U).trans x2,(J.cell (p:=⟨w.heap.size,3,none⟩) U).trans x3,(J.cell (p:=⟨w.heap.size+1,0,none⟩) ly).trans y0,(J.cell (p:=⟨w.heap.size+1,1,none⟩) ly).trans y1,(J.cell (p:=⟨bn,u+k,none⟩) Q).trans cn,(J.cell (p:=⟨bf,I+k,none⟩) aE).trans cf,(J.cell (p:=⟨bn,u+F,none⟩) Q).trans cy⟩
     go_upto_region 14 with fail
     refine wp_region_held_drew (S:=(fun w'=>KD w' w.heap.size d (w'.cell? ⟨w.heap.size+1,0,none⟩=some (.slice (some ⟨bn,u,none⟩) H nc)/\w'.cell? ⟨w.heap.size+1,1,none⟩=some (.slice (some ⟨bf,I,none⟩) H fc)/\w'.cell? ⟨bn,u+k,none⟩=some (.int .i64 (X:Int))/\w'.cell? ⟨bf,I+k,none⟩=some (.int .i64 (F:Int))/\w'.cell? ⟨bn,u+F,none⟩=some (.int .i64 y)))) (by kernel_rfl) ?_ (fun hHeld=>?_)
     ·(try dsimp only)
      first|exact g.out _ B
     refine onW 0 opA hHeld ?_
     refine onW 1 (opB opA) hHeld ?_
     refine onW 2 (opB (opB opA)) hHeld ?_
     refine onW 3 (opB (opB (opB opA))) hHeld ?_
     refine onW 4 (opC opA) hHeld ?_
     refine onW 5 (opC (opB opA)) hHeld ?_
     refine onW 6 (opC (opB (opB opA))) hHeld ?_
     refine onW 7 (opC (opB (opB (opB opA)))) hHeld ?_
     refine onW 8 (opC (opC opA)) hHeld ?_
     refine onW 9 (opC (opC (opB opA))) hHeld ?_
     refine onW 10 (opC (opC (opB (opB opA)))) hHeld ?_
     refine onW 11 (opC (opC (opB (opB (opB opA))))) hHeld ?_
     refine onW 12 (opC (opC (opC opA))) hHeld ?_
     refine onW 13 (opC (opC (opC (opB opA)))) hHeld ?_
     refine onW 14 (opC (opC (opC (opB (opB opA))))) hHeld ?_
     refine onW 15 (opC (opC (opC (opB (opB (opB opA)))))) hHeld ?_
     refine onW 16 (opD opA) hHeld ?_
     refine onW 17 (opD (opB opA)) hHeld ?_
     refine onW 18 (opD (opB (opB opA))) hHeld ?_
     refine onW 19 (opD (opB (opB (opB opA)))) hHeld ?_
     refine onW 20 (opD (opC opA)) hHeld ?_
     refine onW 21 (opD (opC (opB opA))) hHeld ?_
     refine onW 23 (opD (opC (opB (opB (opB opA))))) hHeld ?_
     refine onW 24 (opD (opC (opC opA))) hHeld ?_
     refine onW 25 (opD (opC (opC (opB opA)))) hHeld ?_
     refine onW 26 (opD (opC (opC (opB (opB opA))))) hHeld ?_
     refine onW 27 (opD (opC (opC (opB (opB (opB opA)))))) hHeld ?_
     refine onW 28 (opD (opC (opC (opC opA)))) hHeld ?_
     refine onW 29 (opD (opC (opC (opC (opB opA))))) hHeld ?_
     refine onW 30 (opD (opC (opC (opC (opB (opB opA)))))) hHeld ?_
     refine onW 31 (opD (opC (opC (opC (opB (opB (opB opA))))))) hHeld ?_
     refine iZ (i:=22) (opD (opC (opB (opB opA)))) (fun K R=>?_)
     go_simp
     (go_at_call 146;(with_reducible refine (bd.out _ B).mono ?_);rintro e5 w5 ⟨A5,n5,c5,rfl,o5,b5⟩;have O5:=Hd o5.ints;have a8:n5<=1048576:=(by have h5:=o5.len;have h6:=pO d (X:Int);omega);replace B:=aA B b5;clear b5 o5)
     first|refine R.out _ _ ?_ (fun hHeld=>?_)|(go_wp2_with fail;refine R.out _ _ ?_ (fun hHeld=>?_))
     ·(try dsimp only)
      first|exact g.out _ B
     clear R K
     try simp only [Act.put,List.setIfInBounds_toArray,List.set_cons_zero,List.set_cons_succ]
     refine iZ (i:=32) (opD (opD opA)) (fun K R=>?_)
     go_simp
     (go_at_call 208;(with_reducible refine (bw.out A5 n5 c5 _ O5.out a8).mono ?_);rintro _ wi ⟨rfl,rfl⟩)
     first|refine R.out _ _ ?_ (fun hHeld=>?_)|(go_wp2_with fail;refine R.out _ _ ?_ (fun hHeld=>?_))
     ·(try dsimp only)
      first|exact g.out _ B
     clear R K
     try simp only [Act.put,List.setIfInBounds_toArray,List.set_cons_zero,List.set_cons_succ]
     refine onW 33 (opD (opD (opB opA))) hHeld ?_
     refine onW 34 (opD (opD (opB (opB opA)))) hHeld ?_
     refine onW 35 (opD (opD (opB (opB (opB opA))))) hHeld ?_
     refine bW 36 (opD (opD (opC opA))) hHeld ?_
     refine bW 37 (opD (opD (opC (opB opA)))) hHeld ?_
     refine bW 38 (opD (opD (opC (opB (opB opA))))) hHeld ?_
     refine bW 39 (opD (opD (opC (opB (opB (opB opA)))))) hHeld ?_
     refine bW 40 (opD (opD (opC (opC opA)))) hHeld ?_
     refine bW 41 (opD (opD (opC (opC (opB opA))))) hHeld ?_
     refine bW 42 (opD (opD (opC (opC (opB (opB opA)))))) hHeld ?_
     refine bW 43 (opD (opD (opC (opC (opB (opB (opB opA))))))) hHeld ?_
     refine bW 44 (opD (opD (opC (opC (opC opA))))) hHeld ?_
     refine bW 45 (opD (opD (opC (opC (opC (opB opA)))))) hHeld ?_
     refine bW 46 (opD (opD (opC (opC (opC (opB (opB opA))))))) hHeld ?_
     refine bW 47 (opD (opD (opC (opC (opC (opB (opB (opB opA)))))))) hHeld ?_
     refine onW 48 (opD (opD (opD opA))) hHeld ?_
     refine wpAnyH_done (by kernel_rfl) ?_ _
     have ah:=Hd (av.out.below B)
     have aW:=Hd (aA HD.out ah.out.bel)
     clear B x0 x1 x2 x3 y0 y1 U ly cn cf cy Q aE g
     go_wp2_with fail
     go_ret
     exact ⟨aO HR.out,aW.out⟩
   have bp:k=H:=by omega
   have de:=dF (by omega:H<=k)
   have cV:Hid (r.nodes.take k=r.nodes):=by show _=_;rw [bp];exact List.take_of_length_le (by rw [HN.out.1];exact Nat.le_refl _)
   rw [cV.out] at HS be
   rw [bp] at aw bY
   have aS:=Hd (bY.out (by omega))
   clear bp
   obtain ⟨wo,rfl⟩:∃x,x=wr:=⟨wr,rfl⟩
   go_wp2_with fail
   clear x0 x1 x2 x3 y0 y1 U ly
   go_loopw [12] (fun i wr=>∃q:Nat,q<=kn/\i = .int .i64 (q:Int)/\wo=wr/\∀j,j<q→ks[j]?.getD 0∈r.nodes) (fun i _=>kn - (intOf i).toNat)
   ·exact ⟨0,by omega,rfl,rfl,fun j hj=>by omega⟩
   obtain ⟨q,hq,rfl,rfl,cx⟩:=hrel
   have b0:=Hd cx
   clear cx
   by_cases bV:q<kn
   ·have cW:=dT (by omega:q<kn)
    have ca:q<ks.length:=by rw [bv.out.1];exact bV
    obtain ⟨bk,ok,cr,cM,cH⟩:=bv.out.2 (by omega)
    have db:=Hd cr
    have ck:=(ax.out.cell (p:=⟨bk,ok+q,none⟩) cM).trans (cH q bV)
    have dx:=aK ax.out cM
    have HG:Hid (ks[q]?.getD 0∈r.nodes→∀j,j<q+1→ks[j]?.getD 0∈r.nodes):=fun h=>bU b0.out h
    have D:Hid (ks[q]?.getD 0∉r.nodes→¬dB d src ks r):=fun h h'=>h (by rw [List.getElem?_eq_getElem ca];exact h'.sinks _ (List.getElem_mem ca))
    have az:Hid (ks[q]?.getD 0∈r.nodes→0<=ks[q]?.getD 0/\ks[q]?.getD 0<(N:Int)):=fun h=>by
     obtain ⟨j,hj,cT⟩:=List.getElem_of_mem h
     have h1:=(aw.out j (by rw [←HN.out.1];exact hj)).1
     rw [List.getElem?_eq_getElem hj] at h1
     change bI d (r.nodes[j])=true at h1
     rw [cT] at h1
     have h2:=mg.1 (show fD d _=true from by unfold bI at h1;rw [Bool.and_eq_true] at h1;exact h1.1)
     rw [bc.out] at h2
     exact h2
    clear cH ca cr
    obtain rfl:=db.out
    generalize ks[q]?.getD 0=s at *
    obtain ⟨i0,i1⟩:=ib (by omega:q<kn)
    by_cases h0:s<0
    ·have HR:=Hd (D.out (fun h=>by have:=az.out h;omega))
     have d0:decide (s<0)=true:=decide_eq_true h0
     clear HG D az h0
     go_wp2_with fail
     go_ret
     exact ⟨aO HR.out,ax.out⟩
    have d0:decide (s<0)=false:=decide_eq_false h0
    by_cases h1:(N:Int)<=s
    ·have HR:=Hd (D.out (fun h=>by have:=az.out h;omega))
     have d1:decide ((N:Int)<=s)=true:=decide_eq_true h1
     have cc:decide (s≥(N:Int))=true:=decide_eq_true h1
     clear HG D az h0 h1
     go_wp2_with fail
     go_ret
     exact ⟨aO HR.out,ax.out⟩
    have d1:decide ((N:Int)<=s)=false:=decide_eq_false h1
    have cc:decide (s≥(N:Int))=false:=decide_eq_false h1
    obtain ⟨X,rfl⟩:∃X:Nat,s=(X:Int):=⟨s.toNat,by omega⟩
    have bO:X<N:=by omega
    obtain ⟨cK,c1⟩:=ib (by omega:X<N)
    obtain ⟨q1,q2,⟨bM,q3⟩,q4⟩:=HS.out.truth 0 (k:=X) rfl bO
    clear q4 h0 h1 az
    by_cases hm:(X:Int)∈r.nodes
    ·have a1:=Hd (HG.out hm)
     rw [decide_eq_true hm] at q1
     clear HG D hm
     go_wp2_with fail
     go_roundw
     ·exact ⟨q+1,by omega,by go_num,by first|rfl|trivial,a1.out⟩
     simp [intOf];omega
    have HR:=Hd (D.out hm)
    rw [decide_eq_false hm] at q1
    clear HG D hm
    go_wp2_with fail
    go_ret
    exact ⟨aO HR.out,ax.out⟩
   have cI:q=kn:=by omega
   have cW:=dF (by omega:kn<=q)
   have HR:Hid (dB d src ks r):=by
    refine ⟨⟨by rw [HN.out.1];omega,by rw [HN.out.1];have h:=bc.out;unfold ig at h;rw [if_pos bZ.out] at h;omega⟩,bZ.out,by rw [b6.out.1,HN.out.1],fun n hn=>?_,be.out,aS.out,fun i h0 hi=>(aw.out i (by rw [←HN.out.1];exact hi)).2.1 h0,fun n hn h5=>?_,fun n hn=>?_⟩
    ·obtain ⟨j,hj,rfl⟩:=List.getElem_of_mem hn
     have h:=(aw.out j (by rw [←HN.out.1];exact hj)).1
     rwa [List.getElem?_eq_getElem hj] at h
    ·obtain ⟨j,hj,rfl⟩:=List.getElem_of_mem hn
     have h:=(aw.out j (by rw [←HN.out.1];exact hj)).2.2
     rw [List.getElem?_eq_getElem hj] at h
     exact h h5
    obtain ⟨j,hj,rfl⟩:=List.getElem_of_mem hn
    have h:=b0.out j (by rw [cI,←bv.out.1];exact hj)
    rwa [List.getElem?_eq_getElem hj] at h
   clear aw b0 cI
   go_wp2_with fail
   go_ret
   exact ⟨dU HR.out,ax.out⟩
  have HR:Hid (¬dB d src ks r):=fun h=>c3 (by rw [←b6.out.1,←HN.out.1];exact h.same)
  have d3:((fn:Int) != (H:Int))=true:=by simp;omega
  clear c3
  go_enter Tryz.func118,Tryz.ntmps118
  go_upto_region 1 with fail
  generalize (w.alloc (.cells (dv d) 36)).alloc (.cells #[.slice NA H nc,.slice FA fn fc] 114)=W9 at *
  have Z:=aT.out
  have V:=aV.out
  obtain ⟨x0,x1,x2,x3⟩:=cs4 Z
  obtain ⟨y0,y1⟩:=cs2 V
  have U:=aB Z
  have ly:=aB V
  clear Z V
  have bD:=Hd (fun (x:Sub W9)=>gJ d x.v)
  have az:=Hd (fun (x:Sub W9)=>(by have h:=aj (H:Int) 1 (ig d) x.v;rwa [bK.out] at h:Calls Tryz.prog 83 #[.int .i64 (H:Int),.int .i64 1,.int .i64 (ig d)] x.v fun e w'=>e = .returned (.bool true)/\x.v=w'))
  have G:=aX W9
  have Y:=aP W9
  refine wpB W9 ?_
  repeat (go_big_quiet_step ((first
   | (go_at_call 116;with_reducible exact aN (bD.out _))
   | (go_at_call 83;with_reducible exact aR (az.out _)))))
  refine wpQuiet_nil ?_
  rintro wq ⟨⟨w5,B⟩,W⟩
  replace W:wq=w5:=W
  subst W
  clear G Y
  have bE:=Hd B
  have HD:=Hd (aA b3.out B)
  clear B x0 x1 x2 x3 y0 y1 U ly
  go_wp2_with fail
  go_ret
  exact ⟨aO HR.out,HD.out⟩
end Go.Proofs.YtofihjoanjkdmaaGreat
