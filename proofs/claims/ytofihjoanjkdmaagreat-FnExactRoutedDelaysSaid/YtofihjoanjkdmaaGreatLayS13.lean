/- Routing nodes of connections in the reference (printed by mksns.py). -/
import Derived.Test.YtofihjoanjkdmaaGreatLayG6
import Derived.Test.YtofihjoanjkdmaaGreatLayS12
namespace Go.Proofs.YtofihjoanjkdmaaGreat
set_option maxHeartbeats 8000000
set_option maxRecDepth 100000
open Go.RowKit
theorem Ew (d:Dev) (t p:Int) (w:World) :
  Calls Tryz.prog 209 #[.agg (dv d),.int .i64 t,.int .i64 p] w fun e w'=>e = .returned (.int .i64 (ed d t p))/\Below w.heap.size w w':=by
 have H:Hid (ed d t p=if az d t=true/\0<=p/\p<eQ (bH d t) then t * aQ d+5+p else -1):=rfl
 have z:=Hd (aD (Below.refl w.heap.size w) (.cells (dv d) 36))
 by_cases j:p<0
 ·have q:Hid (ed d t p=-1):=by show _=_;rw [H.out,if_neg];rintro ⟨_,h0,_⟩;omega
  have dp:decide (p<0)=true:=decide_eq_true j
  clear j
  go_enter Tryz.func209,Tryz.ntmps209
  go_wp2_with fail
  go_ret
  exact ⟨aL q.out.symm,z.out⟩
 have dp:decide (p<0)=false:=decide_eq_false j
 cases ht:az d t with
 | false =>
  have q:Hid (ed d t p=-1):=by show _=_;rw [H.out,if_neg];rintro ⟨h0,_⟩;rw [ht] at h0;cases h0
  have u:Hid (lF d t=-1):=by show _=_;unfold lF;rw [ht];rfl
  have dq:decide (p≥0)=true:=decide_eq_true (by omega)
  have af:decide (0<=p)=true:=decide_eq_true (by omega)
  clear j ht
  go_enter Tryz.func209,Tryz.ntmps209
  go_wp2_with fail
  refine (pQ d t _).mono ?_
  rw [u.out]
  rintro _ w2 ⟨rfl,B⟩
  have g:=Hd (aA z.out B)
  clear B
  go_wp2_with fail
  refine (ku (-1) _).mono ?_
  rw [show eQ (-1)=0 from rfl]
  rintro _ W ⟨rfl,rfl⟩
  go_wp2_with fail
  go_ret
  exact ⟨aL q.out.symm,g.out⟩
 | true =>
  have u:Hid (lF d t=bH d t):=by show _=_;unfold lF;rw [if_pos ht]
  obtain ⟨G,U,ag⟩:=aV.1 ht
  have Y:=fM G
  have hT:=ay G
  have Z:=eT G
  have ak:=iR d t
  have HM:=Hd (jc U (show t<=35 by omega) (show 0<=aQ d by omega) Z.2)
  have HT:=Hd ht
  clear ht G
  go_enter Tryz.func209,Tryz.ntmps209
  go_wp2_with fail
  refine (pQ d t _).mono ?_
  rw [u.out]
  rintro _ w2 ⟨rfl,B⟩
  have g:=Hd (aA z.out B)
  have I:=B.size
  simp only [World.size_alloc] at I
  obtain ⟨hcc,J⟩:=bG B
  clear B
  generalize bH d t=K at *
  go_wp2_with fail
  refine (ku K _).mono ?_
  generalize eQ K=Q at *
  rintro _ W ⟨rfl,rfl⟩
  by_cases D:p<Q
  ·have hh:decide (p≥Q)=false:=by simp;omega
   have q:Hid (ed d t p=t * aQ d+5+p):=by show _=_;rw [H.out,if_pos ⟨HT.out,by omega,D⟩]
   go_wp2_with fail
   refine (eG d _ (by omega) (by omega)).mono ?_
   rintro _ W ⟨rfl,V⟩
   have R:=Hd (aA g.out V)
   have hM:=HM.out
   clear V hcc J
   go_wp2_with fail
   go_ret
   exact ⟨aL q.out.symm,R.out⟩
  have hh:decide (p≥Q)=true:=by simp;omega
  have q:Hid (ed d t p=-1):=by show _=_;rw [H.out,if_neg];rintro ⟨_,_,h1⟩;exact D h1
  go_wp2_with fail
  go_ret
  exact ⟨aL q.out.symm,g.out⟩
theorem uO (d:Dev) (place:List Int) (N a b:Int) (ss:List ah) (PA SA:Option Addr) (pn pc m B:Nat) (w:World) (U:dE w PA pn place) (aw:pn<=1048576) :
  Calls Tryz.prog 119 #[.agg (dv d),.slice PA pn pc,.agg #[.int .i64 N,.int .i64 a,.int .i64 b,.slice SA m B]] w fun e w'=>e = .returned (.int .i64 (fT d place ⟨N,⟨a,b⟩,ss⟩))/\Below w.heap.size w w':=by
 have HP:=Hd U
 have u:fT d place ⟨N,⟨a,b⟩,ss⟩=if 0<=a/\a<(place.length:Int) then ed d (place[a.toNat]?.getD 0) b else -1:=rfl
 rw [U.1] at u
 clear U
 have q:=Hd (aD (aD (Below.refl w.heap.size w) (.cells (dv d) 36)) (.cells #[.int .i64 N,.int .i64 a,.int .i64 b,.slice SA m B] 158))
 have j:=bS (.cells #[.int .i64 N,.int .i64 a,.int .i64 b,.slice SA m B] 158) (aI w (.cells (dv d) 36))
 have g:=aI (w.alloc (.cells (dv d) 36)) (.cells #[.int .i64 N,.int .i64 a,.int .i64 b,.slice SA m B] 158)
 simp only [World.size_alloc] at g
 obtain ⟨D,z⟩:=hd2 j g
 clear j g
 by_cases h1:a<0
 ·have dz:decide (a<0)=true:=decide_eq_true h1
  have H:Hid (fT d place ⟨N,⟨a,b⟩,ss⟩=-1):=by show _=_;rw [u,if_neg fun h=>by omega]
  clear u
  go_enter Tryz.func119,Tryz.ntmps119
  go_upto_region 1 with fail
  generalize (w.alloc (.cells (dv d) 36)).alloc (.cells #[.int .i64 N,.int .i64 a,.int .i64 b,.slice SA m B] 158)=G at *
  have j:=D.out
  have g:=z.out
  obtain ⟨x0,x1,x2,x3⟩:=cs4 j
  obtain ⟨y0,W,Y,Q⟩:=cs4 g
  have lx:=aB j
  have ly:=aB g
  clear j g
  go_wp2_with fail
  go_ret
  exact ⟨aL H.out.symm,q.out⟩
 have dz:decide (a<0)=false:=decide_eq_false h1
 by_cases h2:(pn:Int)<=a
 ·have dp:decide ((pn:Int)<=a)=true:=decide_eq_true h2
  have Z:decide (a≥(pn:Int))=true:=decide_eq_true h2
  have H:Hid (fT d place ⟨N,⟨a,b⟩,ss⟩=-1):=by show _=_;rw [u,if_neg fun h=>by omega]
  clear u
  go_enter Tryz.func119,Tryz.ntmps119
  go_upto_region 1 with fail
  generalize (w.alloc (.cells (dv d) 36)).alloc (.cells #[.int .i64 N,.int .i64 a,.int .i64 b,.slice SA m B] 158)=G at *
  have j:=D.out
  have g:=z.out
  obtain ⟨x0,x1,x2,x3⟩:=cs4 j
  obtain ⟨y0,W,Y,Q⟩:=cs4 g
  have lx:=aB j
  have ly:=aB g
  clear j g
  go_wp2_with fail
  go_ret
  exact ⟨aL H.out.symm,q.out⟩
 have dp:decide ((pn:Int)<=a)=false:=decide_eq_false h2
 have Z:decide (a≥(pn:Int))=false:=decide_eq_false h2
 obtain ⟨X,rfl⟩:∃X:Nat,a=(X:Int):=⟨a.toNat,by omega⟩
 have hX:X<pn:=by omega
 rw [if_pos ⟨by omega,by omega⟩,Int.toNat_natCast] at u
 obtain ⟨bp,op,rfl,J,K⟩:=HP.out.2 (by omega)
 have cp:=(q.out.cell (p:=⟨bp,op+X,none⟩) J).trans (K X hX)
 have V:=aK q.out J
 generalize place[X]?.getD 0=t at *
 have H:=Hd u
 have iX:(X:Int)<(pn:Int):=by omega
 have i0:(0:Int)<=(X:Int):=by omega
 clear u K
 go_enter Tryz.func119,Tryz.ntmps119
 go_upto_region 1 with fail
 generalize (w.alloc (.cells (dv d) 36)).alloc (.cells #[.int .i64 N,.int .i64 (X:Int),.int .i64 b,.slice SA m B] 158)=G at *
 have j:=D.out
 have g:=z.out
 obtain ⟨x0,x1,x2,x3⟩:=cs4 j
 obtain ⟨y0,W,Y,Q⟩:=cs4 g
 have lx:=aB j
 have ly:=aB g
 clear j g
 have aj:=Hd (fun (x:Sub G)=>Ew d t b x.v)
 go_upto_region 3 with fail
 have I:=aX G
 have R:=aP G
 refine wpB G ?_
 repeat (go_big_quiet_step ((first
  | (go_at_call 209;with_reducible exact aN (aj.out _)))))
 refine wpQuiet_nil ?_
 rintro _ ⟨⟨w5,hD⟩,rfl⟩
 clear I R
 have HD:=Hd (aA q.out hD)
 clear hD x0 x1 x2 x3 y0 W Y Q lx ly cp V
 go_wp2_with fail
 go_ret
 exact ⟨aL H.out.symm,HD.out⟩
theorem vU (d:Dev) (place:List Int) (N a b:Int) (ss:List ah) (PA SA:Option Addr) (pn pc m V:Nat) (w:World) (hp:dE w PA pn place) (hs:RdC w w.heap.size (bL ss) (.slice SA m V)) (a6:pn<=1048576) (hm:m<=1048576) :
  Calls Tryz.prog 117 #[.agg (dv d),.slice PA pn pc,.agg #[.int .i64 N,.int .i64 a,.int .i64 b,.slice SA m V]] w fun e w'=>(gW d place ⟨N,⟨a,b⟩,ss⟩/\(∃A c,e = .returned (.slice A m c)/\Own w.heap.size w' A m c (bQ d place ⟨N,⟨a,b⟩,ss⟩))∨¬gW d place ⟨N,⟨a,b⟩,ss⟩/\∃A c,e = .returned (.slice A 0 c))/\Below w.heap.size w w':=by
 obtain ⟨HP,ay⟩:=hd2 hp hs
 have K:Hid (ss.length=m):=hs.pinN
 clear hp hs
 have ad:=Hd (aD (aD (Below.refl w.heap.size w) (.cells (dv d) 36)) (.cells #[.int .i64 N,.int .i64 a,.int .i64 b,.slice SA m V] 158))
 have hx:=bS (.cells #[.int .i64 N,.int .i64 a,.int .i64 b,.slice SA m V] 158) (aI w (.cells (dv d) 36))
 have hy:=aI (w.alloc (.cells (dv d) 36)) (.cells #[.int .i64 N,.int .i64 a,.int .i64 b,.slice SA m V] 158)
 simp only [World.size_alloc] at hy
 obtain ⟨aH,aT⟩:=hd2 hx hy
 clear hx hy
 go_enter Tryz.func117,Tryz.ntmps117
 go_upto_region 1 with fail
 generalize (w.alloc (.cells (dv d) 36)).alloc (.cells #[.int .i64 N,.int .i64 a,.int .i64 b,.slice SA m V] 158)=W9 at *
 go_wp2_with fail
 go_loopw [7,8] (fun v i wr=>∃(k:Nat) (A:Option Addr) (c:Nat),k<=m/\i = .int .i64 (k:Int)/\v = .slice A k c/\aJ W9 wr [.cel (aG ((ss.take k).map (bO d place))) (.slice A k c)]/\∀j,j<k→0<=bO d place (ss[j]?.getD ah.zero)) (fun _ i _=>m - (intOf i).toNat)
 ·exact ⟨0,_,_,by omega,rfl,rfl,(aJ.refl W9).pushNew 3 1,fun j hj=>by omega⟩
 obtain ⟨k,A1,c1,hk,rfl,rfl,hs,G⟩:=hrel
 obtain ⟨Y,D⟩:=hd2 hs G
 have g:=Hd (aA ad.out hs.bel)
 clear hs G
 obtain ⟨x0,x1,x2,x3,lx⟩:=bX (aC Y.out.bel aH.out)
 obtain ⟨-,-,-,y3,ly⟩:=bX (aC Y.out.bel aT.out)
 have i0:(0:Int)<=(k:Int):=by omega
 by_cases au:k<m
 ·have aV:=dT (by omega:k<m)
  have B:k<ss.length:=by rw [K.out];exact au
  obtain ⟨bs,os,aj,J,d0,Z⟩:=ay.out.pin (k:=k) B
  have aq:=Hd aj
  have Q:=aK g.out J
  rw [←g.out.cell (p:=⟨bs,os+k * 2,none⟩) J] at d0
  rw [←g.out.cell (p:=⟨bs,os+k * 2+1,none⟩) J] at Z
  have W:Hid (0<=bO d place (ss[k]?.getD ah.zero)→∀j,j<k+1→0<=bO d place (ss[j]?.getD ah.zero)):=fun h=>bU D.out h
  have q:Hid (¬0<=bO d place (ss[k]?.getD ah.zero)→¬gW d place ⟨N,⟨a,b⟩,ss⟩):=fun h h'=>h (by rw [List.getElem?_eq_getElem B];exact h' _ (List.getElem_mem B))
  have u:=Hd (show (ss.take (k+1)).map (bO d place)=(ss.take k).map (bO d place)++[bO d place (ss[k]?.getD ah.zero)] from by rw [bN (z:=ah.zero) B,List.map_append];rfl)
  clear B aj
  obtain rfl:=aq.out
  generalize ss[k]?.getD ah.zero=p at *
  obtain ⟨x,y⟩:=p
  simp only at d0 Z
  have H:bO d place ⟨x,y⟩=if 0<=x/\x<(place.length:Int) then nT d (place[x.toNat]?.getD 0) y else -1:=rfl
  rw [HP.out.1] at H
  have i1:(k:Int)<(m:Int):=by omega
  by_cases h1:x<0
  ·have dz:decide (x<0)=true:=decide_eq_true h1
   have U:bO d place ⟨x,y⟩=-1:=by rw [H,if_neg fun h=>by omega]
   have I:=Hd (q.out (by omega))
   clear H U W q u
   go_upto_region 6 with fail
   clear x0 x1 x2 x3 lx y3 ly d0 Z Q
   go_wp2_with fail
   go_ret
   exact ⟨.inr ⟨I.out,_,_,rfl⟩,aD g.out _⟩
  have dz:decide (x<0)=false:=decide_eq_false h1
  by_cases h2:(pn:Int)<=x
  ·have dp:decide ((pn:Int)<=x)=true:=decide_eq_true h2
   have aF:decide (x≥(pn:Int))=true:=decide_eq_true h2
   have U:bO d place ⟨x,y⟩=-1:=by rw [H,if_neg fun h=>by omega]
   have I:=Hd (q.out (by omega))
   clear H U W q u
   go_upto_region 6 with fail
   clear x0 x1 x2 x3 lx y3 ly d0 Z Q
   go_wp2_with fail
   go_ret
   exact ⟨.inr ⟨I.out,_,_,rfl⟩,aD g.out _⟩
  have dp:decide ((pn:Int)<=x)=false:=decide_eq_false h2
  have aF:decide (x≥(pn:Int))=false:=decide_eq_false h2
  obtain ⟨X,rfl⟩:∃X:Nat,x=(X:Int):=⟨x.toNat,by omega⟩
  have hX:X<pn:=by omega
  rw [if_pos ⟨by omega,by omega⟩,Int.toNat_natCast] at H
  obtain ⟨bp,op,ae,ak,af⟩:=HP.out.2 (by omega)
  have aS:=Hd ae
  have cp:=(g.out.cell (p:=⟨bp,op+X,none⟩) ak).trans (af X hX)
  have ao:=aK g.out ak
  clear ae
  obtain rfl:=aS.out
  generalize place[X]?.getD 0=t at *
  have az:=Hd H
  have iX:(X:Int)<(pn:Int):=by omega
  have be:(0:Int)<=(X:Int):=by omega
  have ap:=Hd (fun (x:Sub wr)=>BI d t y x.v)
  clear H af
  go_upto_region 8 with fail
  have ag:=aX wr
  have aR:=aP wr
  refine wpB wr ?_
  repeat (go_big_quiet_step ((first
   | (go_at_call 206;with_reducible exact aN (ap.out _)))))
  refine wpQuiet_nil ?_
  rintro _ ⟨⟨w5,hD⟩,rfl⟩
  clear ag aR
  have ax:=Hd (Y.out.below hD)
  have aE:=Hd (aA g.out hD)
  clear hD x0 x1 x2 x3 lx y3 ly d0 Z Q cp ao
  rw [az.out] at W q u
  generalize nT d t y=z at *
  by_cases hz:0<=z
  ·have dq:decide (z<0)=false:=decide_eq_false (by omega)
   have aU:=Hd (W.out hz)
   clear W q
   go_wp2_with (at_builtin;refine dW rfl _ _ rfl _ (ax.out.alloc _) 0 A1 k c1 ((ss.take k).map (bO d place)) z _ (0,0) rfl rfl rfl (aI _ _) (by omega) ?_;intro g9 bf w9 S9 aZ;have aw:=Hd S9;clear S9 aZ)
   go_roundw
   ·exact ⟨k+1,_,_,by omega,by go_num,rfl,by rw [u.out];exact aw.out,aU.out⟩
   simp [intOf];omega
  have dq:decide (z<0)=true:=decide_eq_true (by omega)
  have I:=Hd (q.out (by omega))
  clear W q u
  go_wp2_with fail
  go_ret
  exact ⟨.inr ⟨I.out,_,_,rfl⟩,aD aE.out _⟩
 have R:k=m:=by omega
 have aV:=dF (by omega:m<=k)
 have I:Hid (gW d place ⟨N,⟨a,b⟩,ss⟩):=fun p hp=>by
  obtain ⟨j,hj,rfl⟩:=List.getElem_of_mem hp
  have h:=D.out j (by rw [R,←K.out];exact hj)
  rwa [List.getElem?_eq_getElem hj] at h
 have HD:Hid (aJ W9 wr [.cel (aG (bQ d place ⟨N,⟨a,b⟩,ss⟩)) (.slice A1 m c1)]):=by
  have h:=Y.out
  rwa [R,List.take_of_length_le (by rw [K.out];exact Nat.le_refl _)] at h
 subst R
 clear Y D
 go_wp2_with fail
 go_ret
 exact ⟨.inl ⟨I.out,_,_,rfl,(HD.out.owned 0 rfl).more ad.out.size⟩,g.out⟩
theorem vV (n a b:Int) (w:World) :
  Calls Tryz.prog 205 #[.agg #[.int .i64 a,.int .i64 b],.int .i64 n] w fun e w'=>e = .returned (.bool (tb (gI n ⟨a,b⟩)))/\Below w.heap.size w w':=by
 have g:=Hd (aD (Below.refl w.heap.size w) (.cells #[.int .i64 a,.int .i64 b] 100))
 have q:Hid (gI n ⟨a,b⟩↔(0<=a/\a<n)/\0<=b/\b<=4):=Iff.rfl
 by_cases h1:0<=a
 ·have u:decide (0<=a)=true:=decide_eq_true h1
  by_cases h2:a<n
  ·have z:decide (a<n)=true:=decide_eq_true h2
   have j:Hid (inR b 0 4=tb (gI n ⟨a,b⟩)):=D7 (by rw [aU,q.out];omega)
   clear h1 h2
   go_enter Tryz.func205,Tryz.ntmps205
   go_wp2_with fail
   refine (aj b 0 4 _).mono ?_
   rintro _ w' ⟨rfl,rfl⟩
   go_wp2_with fail
   go_ret
   exact ⟨cK j.out,g.out⟩
  have z:decide (a<n)=false:=decide_eq_false h2
  have j:Hid (¬gI n ⟨a,b⟩):=fun h=>h2 (q.out.1 h).1.2
  clear h1 h2
  go_enter Tryz.func205,Tryz.ntmps205
  go_wp2_with fail
  go_ret
  exact ⟨aO j.out,g.out⟩
 have u:decide (0<=a)=false:=decide_eq_false h1
 have j:Hid (¬gI n ⟨a,b⟩):=fun h=>h1 (q.out.1 h).1.1
 clear h1
 go_enter Tryz.func205,Tryz.ntmps205
 go_wp2_with fail
 go_ret
 exact ⟨aO j.out,g.out⟩
theorem qA (n:Int) (cs:List Cn) (CA:Option Addr) (cn cc:Nat) (w:World) (hC:RdC w w.heap.size (ag cs) (.slice CA cn cc)) (ap:∀c∈cs,c.sinks.length<=1048576) :
  Calls Tryz.prog 115 #[.int .i64 n,.slice CA cn cc] w fun e w'=>e = .returned (.bool (tb (jF n cs)))/\Below w.heap.size w w':=by
 have U:=hC.cnN
 obtain ⟨ai,HC,aV⟩:=hd3 U hC ap
 clear hC ap
 cases hr:inR n 0 64 with
 | false =>
  have Q:Hid (¬jF n cs):=fun h=>by rw [aU.2 h.blocks] at hr;cases hr
  have H1:=Hd hr
  clear hr
  go_enter Tryz.func115,Tryz.ntmps115
  go_wp2_with fail
  refine (aj n 0 64 _).mono ?_
  rw [H1.out]
  rintro _ w' ⟨rfl,rfl⟩
  go_wp2_with fail
  go_ret
  exact ⟨aO Q.out,Below.refl _ _⟩
 | true =>
  have hn:=aU.1 hr
  have H1:=Hd hr
  clear hr
  by_cases Z:cn<=100
  ·have aw:decide ((100:Int)<(cn:Int))=false:=decide_eq_false (by omega)
   clear U
   go_enter Tryz.func115,Tryz.ntmps115
   go_wp2_with fail
   refine (aj n 0 64 _).mono ?_
   rw [H1.out]
   rintro _ w' ⟨rfl,rfl⟩
   go_wp2_with fail
   go_loopw [5] (fun i wr=>∃k:Nat,k<=cn/\i = .int .i64 (k:Int)/\Below w.heap.size w wr/\∀j,j<k→oz n (cs[j]?.getD Cn.zero)) (fun i _=>cn - (intOf i).toNat)
   ·exact ⟨0,by omega,rfl,Below.refl _ _,fun j hj=>by omega⟩
   obtain ⟨k,hk,rfl,hb,B⟩:=hrel
   obtain ⟨z,R⟩:=hd2 hb B
   clear hb B
   by_cases aM:k<cn
   ·have aS:=dT (by omega:k<cn)
    have I:k<cs.length:=by rw [ai.out];exact aM
    obtain ⟨bc,oc,SA,m,mc,aq,u,c0,c1,c2,c3,rs⟩:=HC.out.cn (k:=k) I
    have aR:=Hd aq
    have hg:oz n (cs[k]?.getD Cn.zero)→∀j,j<k+1→oz n (cs[j]?.getD Cn.zero):=fun h=>bU R.out h
    have ar:jF n cs→oz n (cs[k]?.getD Cn.zero):=fun h=>by rw [List.getElem?_eq_getElem I];exact h.fit _ (List.getElem_mem I)
    have G:=aV.out _ (List.getElem_mem I)
    rw [show cs[k]=cs[k]?.getD Cn.zero by rw [List.getElem?_eq_getElem I];rfl] at G
    obtain ⟨Y,V⟩:=hd2 hg ar
    clear I hg ar aq
    obtain rfl:=aR.out
    generalize cs[k]?.getD Cn.zero=c at *
    obtain ⟨N,⟨a,b⟩,ss⟩:=c
    simp only at c0 c1 c2 c3 G
    have au:=Hd (show RdC w w.heap.size (bL ss) (.slice SA m mc) from rs)
    have J:Hid (ss.length=m):=au.out.pinN
    have hm:m<=1048576:=by rw [←J.out];exact G
    obtain ⟨i0,i1⟩:=ib (by omega:k<cn)
    obtain ⟨aB,av,az⟩:=hd3 c1 c2 c3
    clear rs G c0 c1 c2 c3
    have H:=aK z.out u
    have c1:=(z.out.cell (p:=⟨bc,oc+k * 4+1,none⟩) u).trans aB.out
    have c2:=(z.out.cell (p:=⟨bc,oc+k * 4+2,none⟩) u).trans av.out
    have c3:=(z.out.cell (p:=⟨bc,oc+k * 4+3,none⟩) u).trans az.out
    cases D:inR (m:Int) 1 120 with
    | false =>
     have Q:Hid (¬jF n cs):=fun h=>by
      have h2:=(V.out h).len
      change 1<=ss.length/\ss.length<=120 at h2
      rw [J.out] at h2
      rw [aU.2 (by omega)] at D
      cases D
     have H2:=Hd D
     clear D Y V
     go_wp2_with fail
     refine (aj (m:Int) 1 120 _).mono ?_
     rw [H2.out]
     rintro _ w' ⟨rfl,rfl⟩
     clear c1 c2 c3 H
     go_wp2_with fail
     go_ret
     exact ⟨aO Q.out,z.out⟩
    | true =>
     have aZ:=aU.1 D
     have H2:=Hd D
     clear D
     go_wp2_with fail
     refine (aj (m:Int) 1 120 _).mono ?_
     rw [H2.out]
     rintro _ w' ⟨rfl,rfl⟩
     go_wp2_with fail
     refine (vV n a b _).mono ?_
     by_cases hf:gI n ⟨a,b⟩
     ·rw [ae hf]
      have aP:Hid ((∀p∈ss,gI n p)→∀j,j<k+1→oz n (cs[j]?.getD Cn.zero)):=fun h=>Y.out ⟨⟨by show 1<=ss.length;rw [J.out];omega,by show ss.length<=120;rw [J.out];omega⟩,hf,h⟩
      rintro _ w4 ⟨rfl,K⟩
      have af:=Hd (aA z.out K)
      clear K c1 c2 c3 H Y hf
      go_wp2_with fail
      go_loopw [6] (fun i wr=>∃j:Nat,j<=m/\i = .int .i64 (j:Int)/\Below w.heap.size w wr/\∀q,q<j→gI n (ss[q]?.getD ah.zero)) (fun i _=>m - (intOf i).toNat)
      ·exact ⟨0,by omega,rfl,af.out,fun q hq=>by omega⟩
      obtain ⟨j,hj,rfl,hb,B⟩:=hrel
      obtain ⟨g,ak⟩:=hd2 hb B
      clear hb B
      have H:=aK g.out u
      have c1:=(g.out.cell (p:=⟨bc,oc+k * 4+1,none⟩) u).trans aB.out
      have c2:=(g.out.cell (p:=⟨bc,oc+k * 4+2,none⟩) u).trans av.out
      have c3:=(g.out.cell (p:=⟨bc,oc+k * 4+3,none⟩) u).trans az.out
      have i2:(0:Int)<=(j:Int):=by omega
      by_cases aD:j<m
      ·have aI:=dT (by omega:j<m)
       have W:j<ss.length:=by rw [J.out];exact aD
       obtain ⟨bp,op,ax,al,d0,d1⟩:=au.out.pin (k:=j) W
       have aJ:=Hd ax
       have ao:=aK g.out al
       rw [←g.out.cell (p:=⟨bp,op+j * 2,none⟩) al] at d0
       rw [←g.out.cell (p:=⟨bp,op+j * 2+1,none⟩) al] at d1
       have Y:Hid (gI n (ss[j]?.getD ah.zero)→∀q,q<j+1→gI n (ss[q]?.getD ah.zero)):=fun h=>bU ak.out h
       have HN:Hid (¬gI n (ss[j]?.getD ah.zero)→¬jF n cs):=fun h h'=>h (by
        rw [List.getElem?_eq_getElem W]
        exact (V.out h').sinks _ (List.getElem_mem W))
       clear W ax
       obtain rfl:=aJ.out
       generalize ss[j]?.getD ah.zero=s at *
       obtain ⟨x,y⟩:=s
       simp only at d0 d1
       have i3:(j:Int)<(m:Int):=by omega
       go_wp2_with fail
       refine (vV n x y _).mono ?_
       by_cases hf:gI n ⟨x,y⟩
       ·rw [ae hf]
        have am:=Hd (Y.out hf)
        rintro _ w4 ⟨rfl,K⟩
        have ad:=Hd (aA g.out K)
        clear K d0 d1 Y HN hf ao c1 c2 c3 H
        go_wp2_with fail
        go_roundw
        ·exact ⟨j+1,by omega,by go_num,ad.out,am.out⟩
        simp [intOf];omega
       rw [bJ hf]
       have Q:=Hd (HN.out hf)
       rintro _ w4 ⟨rfl,K⟩
       have ad:=Hd (aA g.out K)
       clear K d0 d1 Y HN hf ao c1 c2 c3 H
       go_wp2_with fail
       go_ret
       exact ⟨aO Q.out,ad.out⟩
      have aE:j=m:=by omega
      have aI:=dF (by omega:m<=j)
      have am:=Hd (aP.out (fun p hp=>by
       obtain ⟨q,hq,rfl⟩:=List.getElem_of_mem hp
       have h:=ak.out q (by rw [aE,←J.out];exact hq)
       rwa [List.getElem?_eq_getElem hq] at h))
      clear ak aE
      go_wp2_with fail
      go_roundw
      ·exact ⟨k+1,by omega,by go_num,g.out,am.out⟩
      simp [intOf];omega
     rw [bJ hf]
     have Q:Hid (¬jF n cs):=fun h=>hf (V.out h).src
     rintro _ w4 ⟨rfl,K⟩
     have af:=Hd (aA z.out K)
     clear K c1 c2 c3 H Y hf
     go_wp2_with fail
     go_ret
     exact ⟨aO Q.out,af.out⟩
   have ay:k=cn:=by omega
   have aS:=dF (by omega:cn<=k)
   have Q:Hid (jF n cs):=⟨hn,by rw [ai.out];exact Z,fun c hc=>by
    obtain ⟨j,hj,rfl⟩:=List.getElem_of_mem hc
    have h:=R.out j (by rw [ay,←ai.out];exact hj)
    rwa [List.getElem?_eq_getElem hj] at h⟩
   clear R ay
   go_wp2_with fail
   go_ret
   exact ⟨dU Q.out,z.out⟩
  have Q:Hid (¬jF n cs):=fun h=>Z (by rw [←U];exact h.len)
  have aw:decide ((100:Int)<(cn:Int))=true:=decide_eq_true (by omega)
  clear U
  go_enter Tryz.func115,Tryz.ntmps115
  go_wp2_with fail
  refine (aj n 0 64 _).mono ?_
  rw [H1.out]
  rintro _ w' ⟨rfl,rfl⟩
  go_wp2_with fail
  go_ret
  exact ⟨aO Q.out,Below.refl _ _⟩
theorem xD (d:Dev) (place:List Int) (N a b:Int) (ss:List ah) (PA SA:Option Addr) (pn pc m g:Nat) (w:World) (z:dE w PA pn place) (hs:RdC w w.heap.size (bL ss) (.slice SA m g)) (q:pn<=1048576) (B:m<=1048576) :
  Calls Tryz.prog 117 #[.agg (dv d),.slice PA pn pc,.agg #[.int .i64 N,.int .i64 a,.int .i64 b,.slice SA m g]] w fun e w'=>∃A j c,e = .returned (.slice A j c)/\(gW d place ⟨N,⟨a,b⟩,ss⟩/\m=j/\dE w' A m (bQ d place ⟨N,⟨a,b⟩,ss⟩)∨¬gW d place ⟨N,⟨a,b⟩,ss⟩/\j=0)/\Below w.heap.size w w' :=
 (vU d place N a b ss PA SA pn pc m g w z hs q B).mono fun e w' ⟨h,u⟩=>by
  rcases h with ⟨h1,A,c,h2,h3⟩|⟨h1,A,c,h2⟩
  ·exact ⟨A,m,c,h2,.inl ⟨h1,rfl,h3.ints⟩,u⟩
  exact ⟨A,0,c,h2,.inr ⟨h1,rfl⟩,u⟩
theorem qw (d:Dev) (place:List Int) (cs:List Cn) (rs:List Rou) (PA CA RA:Option Addr) (pn pc cn cc rn rc:Nat) (w:World) (hp:dE w PA pn place) (hC:RdC w w.heap.size (ag cs) (.slice CA cn cc)) (hR:RdC w w.heap.size (bE rs) (.slice RA rn rc)) (bp:pn<=1048576) (H:∀c∈cs,c.sinks.length<=1048576) (U:∀r∈rs,r.nodes.length<=1048576/\r.from_.length<=1048576) :
  Calls Tryz.prog 40 #[.agg (dv d),.slice PA pn pc,.slice CA cn cc,.slice RA rn rc] w fun e w'=>e = .returned (.bool (tb (d9 d place cs rs)))/\Below w.heap.size w w':=by
 obtain ⟨HP,HC,au,ce⟩:=hd4 hp hC hC.cnN hR
 have av:=hR.rouN
 obtain ⟨aG,bR⟩:=hd2 H U
 clear hp hC hR H U
 have bj:(place.length:Int)=(pn:Int):=by rw [HP.out.1]
 have W:=Hd (aD (Below.refl w.heap.size w) (.cells (dv d) 36))
 have aQ:=Hd (aI w (.cells (dv d) 36))
 obtain ⟨x0,Z,x2,x3,V⟩:=bX (aQ.out)
 by_cases B:jF (place.length:Int) cs
 ·have bs:=Hd B
  rw [bj] at B
  by_cases h1:rn=cn
  ·subst h1
   obtain ⟨cn,rfl⟩:∃x,x=rn:=⟨rn,rfl⟩
   have a4:=Hd av
   have cz:cn<=100:=by rw [←au.out];exact B.len
   have d1:((cn:Int) != (cn:Int))=false:=by simp
   clear av
   go_enter Tryz.func40,Tryz.ntmps40
   go_upto_region 1 with fail
   generalize w.alloc (.cells (dv d) 36)=W9 at *
   clear x0 Z x2 x3 V
   go_wp2_with fail
   refine (qA (pn:Int) cs CA cn cc _ (HC.out.below W.out) aG.out).mono ?_
   rw [ae B]
   rintro _ wq ⟨rfl,u⟩
   have aE:=Hd (aC u aQ.out)
   have HD:=Hd (aA W.out u)
   clear u
   obtain ⟨NR,hN⟩:∃N:Nat,ig d=(N:Int):=by
    cases hd:dZ d with
    | true=>have:=iG hd;exact ⟨(ig d).toNat,by unfold ig;rw [if_pos hd];omega⟩
    | false=>exact ⟨0,by unfold ig;rw [hd];rfl⟩
   have cN:NR<=828:=by
    have h:=hN
    unfold ig at h
    split at h
    ·rename_i cw
     have:=iG cw
     omega
    omega
   have aU:=Hd hN
   clear hN
   obtain ⟨x0,Z,x2,x3,V⟩:=bX (aE.out)
   go_wp2_with fail
   refine (gJ d _).mono ?_
   rw [aU.out]
   rintro _ W0 ⟨rfl,bz⟩
   have b2:=Hd (aC bz aE.out)
   have ch:=Hd (aA HD.out bz)
   clear bz x0 Z x2 x3 V HD
   have HD:=ch
   have ca:=nu NR (by omega)
   have cl:=Hd ((aJ.refl W0).pushRowB NR)
   go_wp2_with fail
   clear ca
   go_loopw [10] (fun i wr=>∃k:Nat,k<=cn/\i = .int .i64 (k:Int)/\aJ W0 wr [rX W0.heap.size NR ((rs.take k).flatMap Rou.nodes)]/\(∀j,j<k→gW d place (cs[j]?.getD Cn.zero)/\dB d (fT d place (cs[j]?.getD Cn.zero)) (bQ d place (cs[j]?.getD Cn.zero)) (rs[j]?.getD Rou.zero))/\((rs.take k).flatMap Rou.nodes).Nodup) (fun i _=>cn - (intOf i).toNat)
   ·exact ⟨0,by omega,rfl,cl.out,fun j hj=>by omega,by simp⟩
   obtain ⟨k,hk,rfl,hs,aT,aw⟩:=hrel
   obtain ⟨HS,ar,aZ⟩:=hd3 hs aT aw
   have g:=Hd (aA HD.out hs.bel)
   have bG:=Hd (aC hs.bel b2.out)
   clear hs aT aw
   by_cases bm:k<cn
   ·have ct:=dT (by omega:k<cn)
    have R:k<cs.length:=by rw [au.out];exact bm
    have ap:k<rs.length:=by rw [a4.out];exact bm
    obtain ⟨bc,oc,SA,m,mc,bh,H,c0,c1,c2,c3,bK⟩:=HC.out.cn (k:=k) R
    obtain ⟨br,ob,NA,nn,nc,FA,fn,fc,bF,U,e0,e1,a8,a2⟩:=ce.out.rou (k:=k) ap
    obtain ⟨cd,cg⟩:=hd2 bh bF
    have bS:Hid (∀v,Below w.heap.size w v→v.cell? ⟨br,ob+k * 2,none⟩=some (.slice NA nn nc)):=fun v D=>(D.cell (p:=⟨br,ob+k * 2,none⟩) U).trans e0
    have cb:Hid (∀v,Below w.heap.size w v→v.cell? ⟨br,ob+k * 2+1,none⟩=some (.slice FA fn fc)):=fun v D=>(D.cell (p:=⟨br,ob+k * 2+1,none⟩) U).trans e1
    have B:oz (place.length:Int) (cs[k]?.getD Cn.zero):=by rw [List.getElem?_eq_getElem R];exact bs.out.fit _ (List.getElem_mem R)
    have hg:gW d place (cs[k]?.getD Cn.zero)/\dB d (fT d place (cs[k]?.getD Cn.zero)) (bQ d place (cs[k]?.getD Cn.zero)) (rs[k]?.getD Rou.zero)→∀j,j<k+1→gW d place (cs[j]?.getD Cn.zero)/\dB d (fT d place (cs[j]?.getD Cn.zero)) (bQ d place (cs[j]?.getD Cn.zero)) (rs[j]?.getD Rou.zero):=fun h=>bU ar.out h
    have bk:d9 d place cs rs→gW d place (cs[k]?.getD Cn.zero)/\dB d (fT d place (cs[k]?.getD Cn.zero)) (bQ d place (cs[k]?.getD Cn.zero)) (rs[k]?.getD Rou.zero):=fun h=>h.fit k R
    have aL:=aG.out _ (List.getElem_mem R)
    rw [show cs[k]=cs[k]?.getD Cn.zero by rw [List.getElem?_eq_getElem R];rfl] at aL
    have J:=bR.out _ (List.getElem_mem ap)
    rw [show rs[k]=rs[k]?.getD Rou.zero by rw [List.getElem?_eq_getElem ap];rfl] at J
    have a7:(rs.take (k+1)).flatMap Rou.nodes=(rs.take k).flatMap Rou.nodes++(rs[k]?.getD Rou.zero).nodes:=by
     rw [bN (z:=Rou.zero) ap,List.flatMap_append,List.flatMap_singleton]
    have bo:d9 d place cs rs→((rs.take k).flatMap Rou.nodes++(rs[k]?.getD Rou.zero).nodes).Nodup:=fun h=>by
     have h1:=h.once
     rw [←List.take_append_drop (k+1) rs,List.flatMap_append,a7] at h1
     exact (List.nodup_append.1 h1).1
    obtain ⟨HG,am,a1,bf⟩:=hd4 hg bk a7 bo
    clear R ap hg bk bh bF a7 bo e0 e1
    obtain rfl:=cd.out
    obtain rfl:=cg.out
    generalize cs[k]?.getD Cn.zero=cx at *
    generalize rs[k]?.getD Rou.zero=rx at *
    obtain ⟨N,⟨a,b⟩,ss⟩:=cx
    obtain ⟨Q,fs⟩:=rx
    simp only at c0 c1 c2 c3 aL J a1 bf a8 a2
    have bC:=Hd (fun (v:World) (D:Below w.heap.size w v)=>(D.cell (p:=⟨bc,oc+k * 4,none⟩) H).trans c0)
    have bH:=Hd (fun (v:World) (D:Below w.heap.size w v)=>(D.cell (p:=⟨bc,oc+k * 4+1,none⟩) H).trans c1)
    have bv:=Hd (fun (v:World) (D:Below w.heap.size w v)=>(D.cell (p:=⟨bc,oc+k * 4+2,none⟩) H).trans c2)
    have bD:=Hd (fun (v:World) (D:Below w.heap.size w v)=>(D.cell (p:=⟨bc,oc+k * 4+3,none⟩) H).trans c3)
    clear c0 c1 c2 c3
    have bw:=Hd (show RdC w w.heap.size (bL ss) (.slice SA m mc) from bK)
    have bO:Hid (ss.length=m):=bw.out.pinN
    have hm:m<=1048576:=by rw [←bO.out];exact aL
    have cT:1<=m:=by have h1:=B.len.1;rw [show (⟨N,⟨a,b⟩,ss⟩:Cn).sinks=ss from rfl,bO.out] at h1;exact h1
    have HN:=Hd (a8.ints)
    have HF:=Hd (a2.ints)
    have cj:nn<=1048576:=by rw [←HN.out.1];exact J.1
    have cf:fn<=1048576:=by rw [←HF.out.1];exact J.2
    obtain ⟨i0,i1⟩:=ib (by omega:k<cn)
    clear bK a8 a2 aL J B
    have c0:=bC.out _ g.out
    have c1:=bH.out _ g.out
    have c2:=bv.out _ g.out
    have c3:=bD.out _ g.out
    have I:=aK g.out H
    obtain ⟨x0,Z,x2,x3,V⟩:=bX (bG.out)
    have b9:=Hd (fun (v:World) (D:Below wr.heap.size wr v)=>xD d place N a b ss PA SA pn pc m mc v (HP.out.below (aA g.out D)) (bw.out.below (aA g.out D)) bp hm)
    have ao:Hid (∀w',Below wr.heap.size wr w'→(KD w' w.heap.size d (w'.cell? ⟨bc,oc+k * 4,none⟩=some (.int .i64 N)/\w'.cell? ⟨bc,oc+k * 4+1,none⟩=some (.int .i64 a)/\w'.cell? ⟨bc,oc+k * 4+2,none⟩=some (.int .i64 b)/\w'.cell? ⟨bc,oc+k * 4+3,none⟩=some (.slice SA m mc)))):=fun v D=>⟨(D.cell (p:=⟨w.heap.size,0,none⟩) V).trans x0,(D.cell (p:=⟨w.heap.size,1,none⟩) V).trans Z,(D.cell (p:=⟨w.heap.size,2,none⟩) V).trans x2,(D.cell (p:=⟨w.heap.size,3,none⟩) V).trans x3,(D.cell (p:=⟨bc,oc+k * 4,none⟩) I).trans c0,(D.cell (p:=⟨bc,oc+k * 4+1,none⟩) I).trans c1,(D.cell (p:=⟨bc,oc+k * 4+2,none⟩) I).trans c2,(D.cell (p:=⟨bc,oc+k * 4+3,none⟩) I).trans c3⟩
    have u:=(Below.refl wr.heap.size wr).drew
    go_upto_region 7 with fail
    go_region_held3 (fun w'=>KD w' w.heap.size d (w'.cell? ⟨bc,oc+k * 4,none⟩=some (.int .i64 N)/\w'.cell? ⟨bc,oc+k * 4+1,none⟩=some (.int .i64 a)/\w'.cell? ⟨bc,oc+k * 4+2,none⟩=some (.int .i64 b)/\w'.cell? ⟨bc,oc+k * 4+3,none⟩=some (.slice SA m mc)))
     (first|exact ao.out _ u)
     ((first
      | (go_at_call 117;(with_reducible refine (b9.out _ u).mono ?_);rintro e5 w5 ⟨A,m',c,rfl,o5,b5⟩;have O5:=Hd o5;replace u:=aA u b5;clear b5 o5)))
    obtain ⟨w7,rfl⟩:∃x,x=w5:=⟨w5,rfl⟩
    have aH:=Hd (HS.out.below u)
    have b7:=Hd (aC u bG.out)
    have G:=Hd (aA HD.out aH.out.bel)
    clear x0 Z x2 x3 V c0 c1 c2 c3 I u ao
    have c0:=bC.out _ G.out
    have c1:=bH.out _ G.out
    have c2:=bv.out _ G.out
    have c3:=bD.out _ G.out
    have I:=aK G.out H
    have d0:=bS.out _ G.out
    have d1:=cb.out _ G.out
    have aM:=aK G.out U
    obtain ⟨x0,Z,x2,x3,V⟩:=bX (b7.out)
    rcases O5.out with ⟨aq,rfl,o7⟩|⟨aq,rfl⟩
    ·obtain ⟨O7,ci⟩:=hd2 o7 aq
     clear o7 aq
     have bb:Hid (d9 d place cs rs→dB d (fT d place ⟨N,⟨a,b⟩,ss⟩) (bQ d place ⟨N,⟨a,b⟩,ss⟩) ⟨Q,fs⟩):=fun h=>(am.out h).2
     have dm:((m:Int)==0)=false:=by simp;omega
     have bB:=(fun (x:Sub w7)=>uO d place N a b ss PA SA pn pc m mc x.v (HP.out.below (aA G.out x.h)) bp)
     have bx:=Hd bB
     clear bB
     have cy:Hid (∀s∈bQ d place ⟨N,⟨a,b⟩,ss⟩,j4 s):=fun s hs=>by
      unfold bQ at hs
      obtain ⟨p,_,rfl⟩:=List.mem_map.1 hs
      exact EJ d place p
     have Y:=(fun (x:Sub w7)=>yO d (fT d place ⟨N,⟨a,b⟩,ss⟩) (bQ d place ⟨N,⟨a,b⟩,ss⟩) ⟨Q,fs⟩ A NA FA m c nn nc fn fc x.v (O7.out.below x.h) (HN.out.below (aA G.out x.h)) (HF.out.below (aA G.out x.h)) hm cj cf cy.out)
     by_cases hf:dB d (fT d place ⟨N,⟨a,b⟩,ss⟩) (bQ d place ⟨N,⟨a,b⟩,ss⟩) ⟨Q,fs⟩
     ·rw [ae hf] at Y
      have a3:=Hd Y
      have cp:=Hd (HG.out ⟨ci.out,hf⟩)
      have b0:Hid (∀s∈Q,0<=s/\s<(NR:Int)):=fun s hs=>by
       have h1:=hf.node s hs
       unfold bI at h1
       rw [Bool.and_eq_true] at h1
       have h2:=mg.1 h1.1
       rw [aU.out] at h2
       exact h2
      clear Y HG am bb hf
      go_upto_region 8 with fail
      have K:=aX w7
      have ay:=aP w7
      refine wpB w7 ?_
      repeat (go_big_quiet_step ((first
       | (go_at_call 119;with_reducible exact aN (bx.out _))
       | (go_at_call 118;with_reducible exact aN (a3.out _)))))
      refine wpQuiet_nil ?_
      rintro wq ⟨⟨w5,u⟩,hw⟩
      replace hw:wq=w5:=hw
      subst hw
      clear K ay
      have aj:=Hd (aH.out.below u)
      clear u x0 Z x2 x3 V c0 c1 c2 c3 I d0 d1 aM
      go_wp2_with fail
      go_loopw [12] (fun i wr=>∃q:Nat,q<=nn/\i = .int .i64 (q:Int)/\aJ W0 wr [rX W0.heap.size NR ((rs.take k).flatMap Rou.nodes++Q.take q)]/\((rs.take k).flatMap Rou.nodes++Q.take q).Nodup) (fun i _=>nn - (intOf i).toNat)
      ·exact ⟨0,by omega,rfl,by rw [List.take_zero,List.append_nil];exact aj.out,by rw [List.take_zero,List.append_nil];exact aZ.out⟩
      obtain ⟨q,hq,rfl,hs,aw⟩:=hrel
      obtain ⟨HS,a6⟩:=hd2 hs aw
      have g:=Hd (aA HD.out hs.bel)
      clear hs aw
      have d0:=bS.out _ g.out
      have aM:=aK g.out U
      by_cases aW:q<nn
      ·have b4:=dT (by omega:q<nn)
       have aR:q<Q.length:=by rw [HN.out.1];exact aW
       obtain ⟨bn,cv,bA,bq,bu⟩:=HN.out.2 (by omega)
       have b3:=Hd bA
       have cq:=(g.out.cell (p:=⟨bn,cv+q,none⟩) bq).trans (bu q aW)
       have cW:=aK g.out bq
       have hR:=b0.out _ (List.getElem_mem aR)
       rw [show Q[q]=Q[q]?.getD 0 by rw [List.getElem?_eq_getElem aR];rfl] at hR
       have a5:=Hd (bN (z:=0) aR)
       clear bu aR bA
       obtain rfl:=b3.out
       generalize Q[q]?.getD 0=n at *
       obtain ⟨X,rfl⟩:∃X:Nat,n=(X:Int):=⟨n.toNat,by omega⟩
       have b8:X<NR:=by omega
       obtain ⟨cX,cR⟩:=ib (by omega:X<NR)
       obtain ⟨cY,cU⟩:=ib (by omega:q<nn)
       obtain ⟨q1,q2,⟨cP,q3⟩,q4⟩:=HS.out.truth 0 (k:=X) rfl b8
       have cr:=Hd q4
       clear q4 hR
       by_cases hm:(X:Int)∈(rs.take k).flatMap Rou.nodes++Q.take q
       ·rw [decide_eq_true hm] at q1
        have HR:Hid (¬d9 d place cs rs):=fun h=>by
         have h1:=bf.out h
         have h2:(((rs.take k).flatMap Rou.nodes++Q.take q)++[(X:Int)]).Nodup:=by
          have h3:(((rs.take k).flatMap Rou.nodes++Q.take (q+1))++Q.drop (q+1)).Nodup:=by
           rw [List.append_assoc,List.take_append_drop]
           exact h1
          have h4:=(List.nodup_append.1 h3).1
          rw [a5.out,←List.append_assoc] at h4
          exact h4
         exact (dh.1 h2).2 hm
        clear hm
        go_wp2_with fail
        go_ret
        exact ⟨aO HR.out,g.out⟩
       rw [decide_eq_false hm] at q1
       have HM:=Hd hm
       clear hm
       go_wp2_with fail
       go_roundw
       ·exact ⟨q+1,by omega,by go_num,by rw [a5.out,←List.append_assoc];exact cr.out,by rw [a5.out,←List.append_assoc,dh];exact ⟨a6.out,HM.out⟩⟩
       simp [intOf];omega
      have bM:q=nn:=by omega
      have b4:=dF (by omega:nn<=q)
      have cu:Hid (Q.take q=Q):=by show _=_;rw [bM];exact List.take_of_length_le (by rw [HN.out.1];exact Nat.le_refl _)
      rw [cu.out] at HS a6
      clear bM
      go_wp2_with fail
      go_roundw
      ·exact ⟨k+1,by omega,by go_num,by rw [a1.out];exact HS.out,cp.out,by rw [a1.out];exact a6.out⟩
      simp [intOf];omega
     rw [bJ hf] at Y
     have a3:=Hd Y
     have HR:Hid (¬d9 d place cs rs):=fun h=>hf (bb.out h)
     clear Y HG am bb hf
     go_upto_region 8 with fail
     have K:=aX w7
     have ay:=aP w7
     refine wpB w7 ?_
     repeat (go_big_quiet_step ((first
      | (go_at_call 119;with_reducible exact aN (bx.out _))
      | (go_at_call 118;with_reducible exact aN (a3.out _)))))
     refine wpQuiet_nil ?_
     rintro wq ⟨⟨w5,u⟩,hw⟩
     replace hw:wq=w5:=hw
     subst hw
     clear K ay
     have aj:=Hd (aH.out.below u)
     clear u x0 Z x2 x3 V c0 c1 c2 c3 I d0 d1 aM
     have a0:=Hd (aA HD.out aj.out.bel)
     go_wp2_with fail
     go_ret
     exact ⟨aO HR.out,a0.out⟩
    have HR:Hid (¬d9 d place cs rs):=fun h=>aq (am.out h).1
    clear HG am aq
    go_upto_region 8 with fail
    have K:=aX w7
    have ay:=aP w7
    refine wpB w7 ?_
    repeat (go_big_quiet_step ((fail)))
    refine wpQuiet_nil ?_
    rintro wq ⟨⟨w5,u⟩,hw⟩
    replace hw:wq=w5:=hw
    subst hw
    clear K ay
    have aj:=Hd (aH.out.below u)
    clear u x0 Z x2 x3 V c0 c1 c2 c3 I d0 d1 aM
    have a0:=Hd (aA HD.out aj.out.bel)
    go_wp2_with fail
    go_ret
    exact ⟨aO HR.out,a0.out⟩
   have a9:k=cn:=by omega
   have ct:=dF (by omega:cn<=k)
   have HR:Hid (d9 d place cs rs):=by
    refine ⟨bs.out,by rw [a4.out,au.out],fun j hj=>ar.out j (by rw [a9,←au.out];exact hj),?_⟩
    have h:=aZ.out
    rwa [List.take_of_length_le (by rw [a4.out,a9];exact Nat.le_refl _)] at h
   clear ar aZ a9
   go_wp2_with fail
   go_ret
   exact ⟨dU HR.out,g.out⟩
  have HR:Hid (¬d9 d place cs rs):=fun h=>h1 (by rw [←av,h.len,au.out])
  have d1:((rn:Int) != (cn:Int))=true:=by simp;omega
  clear h1 av
  go_enter Tryz.func40,Tryz.ntmps40
  go_upto_region 1 with fail
  generalize w.alloc (.cells (dv d) 36)=W9 at *
  clear x0 Z x2 x3 V
  go_wp2_with fail
  refine (qA (pn:Int) cs CA cn cc _ (HC.out.below W.out) aG.out).mono ?_
  rw [ae B]
  rintro _ wq ⟨rfl,u⟩
  have aE:=Hd (aC u aQ.out)
  have HD:=Hd (aA W.out u)
  clear u
  go_wp2_with fail
  go_ret
  exact ⟨aO HR.out,HD.out⟩
 have HR:Hid (¬d9 d place cs rs):=fun h=>B h.conns
 rw [bj] at B
 clear av
 go_enter Tryz.func40,Tryz.ntmps40
 go_upto_region 1 with fail
 generalize w.alloc (.cells (dv d) 36)=W9 at *
 clear x0 Z x2 x3 V
 go_wp2_with fail
 refine (qA (pn:Int) cs CA cn cc _ (HC.out.below W.out) aG.out).mono ?_
 rw [bJ B]
 rintro _ wq ⟨rfl,u⟩
 have aE:=Hd (aC u aQ.out)
 have HD:=Hd (aA W.out u)
 clear u
 go_wp2_with fail
 go_ret
 exact ⟨aO HR.out,HD.out⟩
end Go.Proofs.YtofihjoanjkdmaaGreat
