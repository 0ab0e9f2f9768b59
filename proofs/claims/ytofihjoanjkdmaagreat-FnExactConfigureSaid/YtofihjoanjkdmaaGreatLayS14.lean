/- Routing nodes of connections in the reference (printed by mksns.py). -/
import Derived.Test.YtofihjoanjkdmaaGreatLayG7
import Derived.Test.YtofihjoanjkdmaaGreatLayS12
import Derived.Test.YtofihjoanjkdmaaGreatLayS5
namespace Go.Proofs.YtofihjoanjkdmaaGreat
set_option maxHeartbeats 8000000
set_option maxRecDepth 100000
open Go.RowKit
theorem Eo (d:Dev) (t p:Int) (w:World) :
  Calls Tryz.prog 209 #[.agg (dv d),.int .i64 t,.int .i64 p] w fun e w'=>e = .returned (.int .i64 (eX d t p))/\Below w.heap.size w w':=by
 have G:Hid (eX d t p=if bB d t=true/\0<=p/\p<eF (bL d t) then t * aV d+5+p else -1):=rfl
 have z:=Hd (aB (Below.refl w.heap.size w) (.cells (dv d) 36))
 by_cases j:p<0
 ·have q:Hid (eX d t p=-1):=by show _=_;rw [G.out,if_neg];rintro ⟨_,h0,_⟩;omega
  have dp:decide (p<0)=true:=decide_eq_true j
  clear j
  go_enter Tryz.func209,Tryz.ntmps209
  go_wp2_with fail
  go_ret
  exact ⟨aL q.out.symm,z.out⟩
 have dp:decide (p<0)=false:=decide_eq_false j
 cases ht:bB d t with
 | false =>
  have q:Hid (eX d t p=-1):=by show _=_;rw [G.out,if_neg];rintro ⟨h0,_⟩;rw [ht] at h0;cases h0
  have u:Hid (lh d t=-1):=by show _=_;unfold lh;rw [ht];rfl
  have dq:decide (p≥0)=true:=decide_eq_true (by omega)
  have ag:decide (0<=p)=true:=decide_eq_true (by omega)
  clear j ht
  go_enter Tryz.func209,Tryz.ntmps209
  go_wp2_with fail
  refine (pV d t _).mono ?_
  rw [u.out]
  rintro _ w2 ⟨rfl,B⟩
  have g:=Hd (aA z.out B)
  clear B
  go_wp2_with fail
  refine (ky (-1) _).mono ?_
  rw [show eF (-1)=0 from rfl]
  rintro _ V ⟨rfl,rfl⟩
  go_wp2_with fail
  go_ret
  exact ⟨aL q.out.symm,g.out⟩
 | true =>
  have u:Hid (lh d t=bL d t):=by show _=_;unfold lh;rw [if_pos ht]
  obtain ⟨H,J,Y⟩:=aU.1 ht
  have ae:=fJ H
  have hT:=ay H
  have Z:=eP H
  have aj:=iZ d t
  have HM:=Hd (jc J (show t<=35 by omega) (show 0<=aV d by omega) Z.2)
  have HT:=Hd ht
  clear ht H
  go_enter Tryz.func209,Tryz.ntmps209
  go_wp2_with fail
  refine (pV d t _).mono ?_
  rw [u.out]
  rintro _ w2 ⟨rfl,B⟩
  have g:=Hd (aA z.out B)
  have U:=B.size
  simp only [World.size_alloc] at U
  obtain ⟨hcc,I⟩:=bG B
  clear B
  generalize bL d t=K at *
  go_wp2_with fail
  refine (ky K _).mono ?_
  generalize eF K=Q at *
  rintro _ V ⟨rfl,rfl⟩
  by_cases D:p<Q
  ·have hh:decide (p≥Q)=false:=by simp;omega
   have q:Hid (eX d t p=t * aV d+5+p):=by show _=_;rw [G.out,if_pos ⟨HT.out,by omega,D⟩]
   go_wp2_with fail
   refine (eH d _ (by omega) (by omega)).mono ?_
   rintro _ V ⟨rfl,W⟩
   have R:=Hd (aA g.out W)
   have hM:=HM.out
   clear W hcc I
   go_wp2_with fail
   go_ret
   exact ⟨aL q.out.symm,R.out⟩
  have hh:decide (p≥Q)=true:=by simp;omega
  have q:Hid (eX d t p=-1):=by show _=_;rw [G.out,if_neg];rintro ⟨_,_,h1⟩;exact D h1
  go_wp2_with fail
  go_ret
  exact ⟨aL q.out.symm,g.out⟩
theorem uG (d:Dev) (place:List Int) (N a b:Int) (ss:List bS) (PA SA:Option Addr) (pn pc m z:Nat) (w:World) (W:dP w PA pn place) (ao:pn<=1048576) :
  Calls Tryz.prog 119 #[.agg (dv d),.slice PA pn pc,.agg #[.int .i64 N,.int .i64 a,.int .i64 b,.slice SA m z]] w fun e w'=>e = .returned (.int .i64 (fQ d place ⟨N,⟨a,b⟩,ss⟩))/\Below w.heap.size w w':=by
 have HP:=Hd W
 have u:fQ d place ⟨N,⟨a,b⟩,ss⟩=if 0<=a/\a<(place.length:Int) then eX d (place[a.toNat]?.getD 0) b else -1:=rfl
 rw [W.1] at u
 clear W
 have q:=Hd (aB (aB (Below.refl w.heap.size w) (.cells (dv d) 36)) (.cells #[.int .i64 N,.int .i64 a,.int .i64 b,.slice SA m z] 158))
 have j:=aW (.cells #[.int .i64 N,.int .i64 a,.int .i64 b,.slice SA m z] 158) (aI w (.cells (dv d) 36))
 have g:=aI (w.alloc (.cells (dv d) 36)) (.cells #[.int .i64 N,.int .i64 a,.int .i64 b,.slice SA m z] 158)
 simp only [World.size_alloc] at g
 obtain ⟨D,B⟩:=hd2 j g
 clear j g
 by_cases h1:a<0
 ·have dz:decide (a<0)=true:=decide_eq_true h1
  have K:Hid (fQ d place ⟨N,⟨a,b⟩,ss⟩=-1):=by show _=_;rw [u,if_neg fun h=>by omega]
  clear u
  go_enter Tryz.func119,Tryz.ntmps119
  go_upto_region 1 with fail
  generalize (w.alloc (.cells (dv d) 36)).alloc (.cells #[.int .i64 N,.int .i64 a,.int .i64 b,.slice SA m z] 158)=G at *
  have j:=D.out
  have g:=B.out
  obtain ⟨x0,Y,R,x3⟩:=cs4 j
  obtain ⟨y0,Z,U,V⟩:=cs4 g
  have lx:=aC j
  have ly:=aC g
  clear j g
  go_wp2_with fail
  go_ret
  exact ⟨aL K.out.symm,q.out⟩
 have dz:decide (a<0)=false:=decide_eq_false h1
 by_cases h2:(pn:Int)<=a
 ·have dp:decide ((pn:Int)<=a)=true:=decide_eq_true h2
  have Q:decide (a≥(pn:Int))=true:=decide_eq_true h2
  have K:Hid (fQ d place ⟨N,⟨a,b⟩,ss⟩=-1):=by show _=_;rw [u,if_neg fun h=>by omega]
  clear u
  go_enter Tryz.func119,Tryz.ntmps119
  go_upto_region 1 with fail
  generalize (w.alloc (.cells (dv d) 36)).alloc (.cells #[.int .i64 N,.int .i64 a,.int .i64 b,.slice SA m z] 158)=G at *
  have j:=D.out
  have g:=B.out
  obtain ⟨x0,Y,R,x3⟩:=cs4 j
  obtain ⟨y0,Z,U,V⟩:=cs4 g
  have lx:=aC j
  have ly:=aC g
  clear j g
  go_wp2_with fail
  go_ret
  exact ⟨aL K.out.symm,q.out⟩
 have dp:decide ((pn:Int)<=a)=false:=decide_eq_false h2
 have Q:decide (a≥(pn:Int))=false:=decide_eq_false h2
 obtain ⟨X,rfl⟩:∃X:Nat,a=(X:Int):=⟨a.toNat,by omega⟩
 have hX:X<pn:=by omega
 rw [if_pos ⟨by omega,by omega⟩,Int.toNat_natCast] at u
 obtain ⟨bp,op,rfl,J,I⟩:=HP.out.2 (by omega)
 have cp:=(q.out.cell (p:=⟨bp,op+X,none⟩) J).trans (I X hX)
 have ah:=aK q.out J
 generalize place[X]?.getD 0=t at *
 have K:=Hd u
 have iX:(X:Int)<(pn:Int):=by omega
 have i0:(0:Int)<=(X:Int):=by omega
 clear u I
 go_enter Tryz.func119,Tryz.ntmps119
 go_upto_region 1 with fail
 generalize (w.alloc (.cells (dv d) 36)).alloc (.cells #[.int .i64 N,.int .i64 (X:Int),.int .i64 b,.slice SA m z] 158)=G at *
 have j:=D.out
 have g:=B.out
 obtain ⟨x0,Y,R,x3⟩:=cs4 j
 obtain ⟨y0,Z,U,V⟩:=cs4 g
 have lx:=aC j
 have ly:=aC g
 clear j g
 have aj:=Hd (fun (x:Sub G)=>Eo d t b x.v)
 go_upto_region 3 with fail
 have H:=aY G
 have ag:=aP G
 refine wpB G ?_
 repeat (go_big_quiet_step ((first
  | (go_at_call 209;with_reducible exact aN (aj.out _)))))
 refine wpQuiet_nil ?_
 rintro _ ⟨⟨w5,hD⟩,rfl⟩
 clear H ag
 have HD:=Hd (aA q.out hD)
 clear hD x0 Y R x3 y0 Z U V lx ly cp ah
 go_wp2_with fail
 go_ret
 exact ⟨aL K.out.symm,HD.out⟩
theorem ui (d:Dev) (place:List Int) (N a b:Int) (ss:List bS) (PA SA:Option Addr) (pn pc m W:Nat) (w:World) (hp:dP w PA pn place) (hs:RdC w w.heap.size (bR ss) (.slice SA m W)) (a7:pn<=1048576) (hm:m<=1048576) :
  Calls Tryz.prog 117 #[.agg (dv d),.slice PA pn pc,.agg #[.int .i64 N,.int .i64 a,.int .i64 b,.slice SA m W]] w fun e w'=>(gy d place ⟨N,⟨a,b⟩,ss⟩/\(∃A c,e = .returned (.slice A m c)/\Own w.heap.size w' A m c (dL d place ⟨N,⟨a,b⟩,ss⟩))∨¬gy d place ⟨N,⟨a,b⟩,ss⟩/\∃A c,e = .returned (.slice A 0 c))/\Below w.heap.size w w':=by
 obtain ⟨HP,ap⟩:=hd2 hp hs
 have U:Hid (ss.length=m):=hs.pinN
 clear hp hs
 have ai:=Hd (aB (aB (Below.refl w.heap.size w) (.cells (dv d) 36)) (.cells #[.int .i64 N,.int .i64 a,.int .i64 b,.slice SA m W] 158))
 have hx:=aW (.cells #[.int .i64 N,.int .i64 a,.int .i64 b,.slice SA m W] 158) (aI w (.cells (dv d) 36))
 have hy:=aI (w.alloc (.cells (dv d) 36)) (.cells #[.int .i64 N,.int .i64 a,.int .i64 b,.slice SA m W] 158)
 simp only [World.size_alloc] at hy
 obtain ⟨aM,au⟩:=hd2 hx hy
 clear hx hy
 go_enter Tryz.func117,Tryz.ntmps117
 go_upto_region 1 with fail
 generalize (w.alloc (.cells (dv d) 36)).alloc (.cells #[.int .i64 N,.int .i64 a,.int .i64 b,.slice SA m W] 158)=W9 at *
 go_wp2_with fail
 go_loopw [7,8] (fun v i wr=>∃(k:Nat) (A:Option Addr) (c:Nat),k<=m/\i = .int .i64 (k:Int)/\v = .slice A k c/\aJ W9 wr [.cel (aH ((ss.take k).map (dH d place))) (.slice A k c)]/\∀j,j<k→0<=dH d place (ss[j]?.getD bS.zero)) (fun _ i _=>m - (intOf i).toNat)
 ·exact ⟨0,_,_,by omega,rfl,rfl,(aJ.refl W9).pushNew 3 1,fun j hj=>by omega⟩
 obtain ⟨k,A1,c1,hk,rfl,rfl,hs,H⟩:=hrel
 obtain ⟨HS,u⟩:=hd2 hs H
 have g:=Hd (aA ai.out hs.bel)
 clear hs H
 obtain ⟨x0,x1,x2,x3,lx⟩:=cO (aD HS.out.bel aM.out)
 obtain ⟨-,-,-,y3,ly⟩:=cO (aD HS.out.bel au.out)
 have i0:(0:Int)<=(k:Int):=by omega
 by_cases aU:k<m
 ·have aL:=dT (by omega:k<m)
  have B:k<ss.length:=by rw [U.out];exact aU
  obtain ⟨bs,os,aj,K,d0,Z⟩:=ap.out.pin (k:=k) B
  have av:=Hd aj
  have R:=aK g.out K
  rw [←g.out.cell (p:=⟨bs,os+k * 2,none⟩) K] at d0
  rw [←g.out.cell (p:=⟨bs,os+k * 2+1,none⟩) K] at Z
  have V:Hid (0<=dH d place (ss[k]?.getD bS.zero)→∀j,j<k+1→0<=dH d place (ss[j]?.getD bS.zero)):=fun h=>bW u.out h
  have q:Hid (¬0<=dH d place (ss[k]?.getD bS.zero)→¬gy d place ⟨N,⟨a,b⟩,ss⟩):=fun h h'=>h (by rw [List.getElem?_eq_getElem B];exact h' _ (List.getElem_mem B))
  have D:=Hd (show (ss.take (k+1)).map (dH d place)=(ss.take k).map (dH d place)++[dH d place (ss[k]?.getD bS.zero)] from by rw [bU (z:=bS.zero) B,List.map_append];rfl)
  clear B aj
  obtain rfl:=av.out
  generalize ss[k]?.getD bS.zero=p at *
  obtain ⟨x,y⟩:=p
  simp only at d0 Z
  have G:dH d place ⟨x,y⟩=if 0<=x/\x<(place.length:Int) then oI d (place[x.toNat]?.getD 0) y else -1:=rfl
  rw [HP.out.1] at G
  have i1:(k:Int)<(m:Int):=by omega
  by_cases h1:x<0
  ·have dz:decide (x<0)=true:=decide_eq_true h1
   have Q:dH d place ⟨x,y⟩=-1:=by rw [G,if_neg fun h=>by omega]
   have I:=Hd (q.out (by omega))
   clear G Q V q D
   go_upto_region 6 with fail
   clear x0 x1 x2 x3 lx y3 ly d0 Z R
   go_wp2_with fail
   go_ret
   exact ⟨.inr ⟨I.out,_,_,rfl⟩,aB g.out _⟩
  have dz:decide (x<0)=false:=decide_eq_false h1
  by_cases h2:(pn:Int)<=x
  ·have dp:decide ((pn:Int)<=x)=true:=decide_eq_true h2
   have am:decide (x≥(pn:Int))=true:=decide_eq_true h2
   have Q:dH d place ⟨x,y⟩=-1:=by rw [G,if_neg fun h=>by omega]
   have I:=Hd (q.out (by omega))
   clear G Q V q D
   go_upto_region 6 with fail
   clear x0 x1 x2 x3 lx y3 ly d0 Z R
   go_wp2_with fail
   go_ret
   exact ⟨.inr ⟨I.out,_,_,rfl⟩,aB g.out _⟩
  have dp:decide ((pn:Int)<=x)=false:=decide_eq_false h2
  have am:decide (x≥(pn:Int))=false:=decide_eq_false h2
  obtain ⟨X,rfl⟩:∃X:Nat,x=(X:Int):=⟨x.toNat,by omega⟩
  have hX:X<pn:=by omega
  rw [if_pos ⟨by omega,by omega⟩,Int.toNat_natCast] at G
  obtain ⟨bp,op,ae,af,Y⟩:=HP.out.2 (by omega)
  have aQ:=Hd ae
  have cp:=(g.out.cell (p:=⟨bp,op+X,none⟩) af).trans (Y X hX)
  have ar:=aK g.out af
  clear ae
  obtain rfl:=aQ.out
  generalize place[X]?.getD 0=t at *
  have aq:=Hd G
  have iX:(X:Int)<(pn:Int):=by omega
  have a9:(0:Int)<=(X:Int):=by omega
  have aR:=Hd (fun (x:Sub wr)=>BU d t y x.v)
  clear G Y
  go_upto_region 8 with fail
  have ah:=aY wr
  have ay:=aP wr
  refine wpB wr ?_
  repeat (go_big_quiet_step ((first
   | (go_at_call 206;with_reducible exact aN (aR.out _)))))
  refine wpQuiet_nil ?_
  rintro _ ⟨⟨w5,hD⟩,rfl⟩
  clear ah ay
  have aE:=Hd (HS.out.below hD)
  have aG:=Hd (aA g.out hD)
  clear hD x0 x1 x2 x3 lx y3 ly d0 Z R cp ar
  rw [aq.out] at V q D
  generalize oI d t y=z at *
  by_cases hz:0<=z
  ·have dq:decide (z<0)=false:=decide_eq_false (by omega)
   have aV:=Hd (V.out hz)
   clear V q
   go_wp2_with (at_builtin;refine gF rfl _ _ rfl _ (aE.out.alloc _) 0 A1 k c1 ((ss.take k).map (dH d place)) z _ (0,0) rfl rfl rfl (aI _ _) (by omega) ?_;intro g9 bd w9 S9 aw;have az:=Hd S9;clear S9 aw)
   go_roundw
   ·exact ⟨k+1,_,_,by omega,by go_num,rfl,by rw [D.out];exact az.out,aV.out⟩
   simp [intOf];omega
  have dq:decide (z<0)=true:=decide_eq_true (by omega)
  have I:=Hd (q.out (by omega))
  clear V q D
  go_wp2_with fail
  go_ret
  exact ⟨.inr ⟨I.out,_,_,rfl⟩,aB aG.out _⟩
 have J:k=m:=by omega
 have aL:=dF (by omega:m<=k)
 have I:Hid (gy d place ⟨N,⟨a,b⟩,ss⟩):=fun p hp=>by
  obtain ⟨j,hj,rfl⟩:=List.getElem_of_mem hp
  have h:=u.out j (by rw [J,←U.out];exact hj)
  rwa [List.getElem?_eq_getElem hj] at h
 have HD:Hid (aJ W9 wr [.cel (aH (dL d place ⟨N,⟨a,b⟩,ss⟩)) (.slice A1 m c1)]):=by
  have h:=HS.out
  rwa [J,List.take_of_length_le (by rw [U.out];exact Nat.le_refl _)] at h
 subst J
 clear HS u
 go_wp2_with fail
 go_ret
 exact ⟨.inl ⟨I.out,_,_,rfl,(HD.out.owned 0 rfl).more ai.out.size⟩,g.out⟩
theorem uj (n a b:Int) (w:World) :
  Calls Tryz.prog 205 #[.agg #[.int .i64 a,.int .i64 b],.int .i64 n] w fun e w'=>e = .returned (.bool (tb (gJ n ⟨a,b⟩)))/\Below w.heap.size w w':=by
 have g:=Hd (aB (Below.refl w.heap.size w) (.cells #[.int .i64 a,.int .i64 b] 100))
 have q:Hid (gJ n ⟨a,b⟩↔(0<=a/\a<n)/\0<=b/\b<=4):=Iff.rfl
 by_cases h1:0<=a
 ·have z:decide (0<=a)=true:=decide_eq_true h1
  by_cases h2:a<n
  ·have u:decide (a<n)=true:=decide_eq_true h2
   have j:Hid (inR b 0 4=tb (gJ n ⟨a,b⟩)):=EH (by rw [aR,q.out];omega)
   clear h1 h2
   go_enter Tryz.func205,Tryz.ntmps205
   go_wp2_with fail
   refine (aj b 0 4 _).mono ?_
   rintro _ w' ⟨rfl,rfl⟩
   go_wp2_with fail
   go_ret
   exact ⟨dC j.out,g.out⟩
  have u:decide (a<n)=false:=decide_eq_false h2
  have j:Hid (¬gJ n ⟨a,b⟩):=fun h=>h2 (q.out.1 h).1.2
  clear h1 h2
  go_enter Tryz.func205,Tryz.ntmps205
  go_wp2_with fail
  go_ret
  exact ⟨aO j.out,g.out⟩
 have z:decide (0<=a)=false:=decide_eq_false h1
 have j:Hid (¬gJ n ⟨a,b⟩):=fun h=>h1 (q.out.1 h).1.1
 clear h1
 go_enter Tryz.func205,Tryz.ntmps205
 go_wp2_with fail
 go_ret
 exact ⟨aO j.out,g.out⟩
theorem pg (n:Int) (cs:List Cn) (CA:Option Addr) (cn cc:Nat) (w:World) (hC:RdC w w.heap.size (ah cs) (.slice CA cn cc)) (ao:∀c∈cs,c.sinks.length<=1048576) :
  Calls Tryz.prog 115 #[.int .i64 n,.slice CA cn cc] w fun e w'=>e = .returned (.bool (tb (jJ n cs)))/\Below w.heap.size w w':=by
 have V:=hC.cnN
 obtain ⟨ad,HC,aJ⟩:=hd3 V hC ao
 clear hC ao
 cases hr:inR n 0 64 with
 | false =>
  have K:Hid (¬jJ n cs):=fun h=>by rw [aR.2 h.blocks] at hr;cases hr
  have H1:=Hd hr
  clear hr
  go_enter Tryz.func115,Tryz.ntmps115
  go_wp2_with fail
  refine (aj n 0 64 _).mono ?_
  rw [H1.out]
  rintro _ w' ⟨rfl,rfl⟩
  go_wp2_with fail
  go_ret
  exact ⟨aO K.out,Below.refl _ _⟩
 | true =>
  have hn:=aR.1 hr
  have H1:=Hd hr
  clear hr
  by_cases Z:cn<=100
  ·have ar:decide ((100:Int)<(cn:Int))=false:=decide_eq_false (by omega)
   clear V
   go_enter Tryz.func115,Tryz.ntmps115
   go_wp2_with fail
   refine (aj n 0 64 _).mono ?_
   rw [H1.out]
   rintro _ w' ⟨rfl,rfl⟩
   go_wp2_with fail
   go_loopw [5] (fun i wr=>∃k:Nat,k<=cn/\i = .int .i64 (k:Int)/\Below w.heap.size w wr/\∀j,j<k→oz n (cs[j]?.getD Cn.zero)) (fun i _=>cn - (intOf i).toNat)
   ·exact ⟨0,by omega,rfl,Below.refl _ _,fun j hj=>by omega⟩
   obtain ⟨k,hk,rfl,hb,z⟩:=hrel
   obtain ⟨u,R⟩:=hd2 hb z
   clear hb z
   by_cases aU:k<cn
   ·have aQ:=dT (by omega:k<cn)
    have I:k<cs.length:=by rw [ad.out];exact aU
    obtain ⟨bc,oc,SA,m,mc,aw,B,c0,c1,c2,c3,rs⟩:=HC.out.cn (k:=k) I
    have aN:=Hd aw
    have hg:oz n (cs[k]?.getD Cn.zero)→∀j,j<k+1→oz n (cs[j]?.getD Cn.zero):=fun h=>bW R.out h
    have ax:jJ n cs→oz n (cs[k]?.getD Cn.zero):=fun h=>by rw [List.getElem?_eq_getElem I];exact h.fit _ (List.getElem_mem I)
    have G:=aJ.out _ (List.getElem_mem I)
    rw [show cs[k]=cs[k]?.getD Cn.zero by rw [List.getElem?_eq_getElem I];rfl] at G
    obtain ⟨Y,W⟩:=hd2 hg ax
    clear I hg ax aw
    obtain rfl:=aN.out
    generalize cs[k]?.getD Cn.zero=c at *
    obtain ⟨N,⟨a,b⟩,ss⟩:=c
    simp only at c0 c1 c2 c3 G
    have ap:=Hd (show RdC w w.heap.size (bR ss) (.slice SA m mc) from rs)
    have J:Hid (ss.length=m):=ap.out.pinN
    have hm:m<=1048576:=by rw [←J.out];exact G
    obtain ⟨i0,i1⟩:=ib (by omega:k<cn)
    obtain ⟨ay,aD,au⟩:=hd3 c1 c2 c3
    clear rs G c0 c1 c2 c3
    have H:=aK u.out B
    have c1:=(u.out.cell (p:=⟨bc,oc+k * 4+1,none⟩) B).trans ay.out
    have c2:=(u.out.cell (p:=⟨bc,oc+k * 4+2,none⟩) B).trans aD.out
    have c3:=(u.out.cell (p:=⟨bc,oc+k * 4+3,none⟩) B).trans au.out
    cases D:inR (m:Int) 1 120 with
    | false =>
     have K:Hid (¬jJ n cs):=fun h=>by
      have h2:=(W.out h).len
      change 1<=ss.length/\ss.length<=120 at h2
      rw [J.out] at h2
      rw [aR.2 (by omega)] at D
      cases D
     have H2:=Hd D
     clear D Y W
     go_wp2_with fail
     refine (aj (m:Int) 1 120 _).mono ?_
     rw [H2.out]
     rintro _ w' ⟨rfl,rfl⟩
     clear c1 c2 c3 H
     go_wp2_with fail
     go_ret
     exact ⟨aO K.out,u.out⟩
    | true =>
     have aX:=aR.1 D
     have H2:=Hd D
     clear D
     go_wp2_with fail
     refine (aj (m:Int) 1 120 _).mono ?_
     rw [H2.out]
     rintro _ w' ⟨rfl,rfl⟩
     go_wp2_with fail
     refine (uj n a b _).mono ?_
     by_cases hf:gJ n ⟨a,b⟩
     ·rw [ae hf]
      have aI:Hid ((∀p∈ss,gJ n p)→∀j,j<k+1→oz n (cs[j]?.getD Cn.zero)):=fun h=>Y.out ⟨⟨by show 1<=ss.length;rw [J.out];omega,by show ss.length<=120;rw [J.out];omega⟩,hf,h⟩
      rintro _ w4 ⟨rfl,Q⟩
      have ai:=Hd (aA u.out Q)
      clear Q c1 c2 c3 H Y hf
      go_wp2_with fail
      go_loopw [6] (fun i wr=>∃j:Nat,j<=m/\i = .int .i64 (j:Int)/\Below w.heap.size w wr/\∀q,q<j→gJ n (ss[q]?.getD bS.zero)) (fun i _=>m - (intOf i).toNat)
      ·exact ⟨0,by omega,rfl,ai.out,fun q hq=>by omega⟩
      obtain ⟨j,hj,rfl,hb,z⟩:=hrel
      obtain ⟨g,ak⟩:=hd2 hb z
      clear hb z
      have H:=aK g.out B
      have c1:=(g.out.cell (p:=⟨bc,oc+k * 4+1,none⟩) B).trans ay.out
      have c2:=(g.out.cell (p:=⟨bc,oc+k * 4+2,none⟩) B).trans aD.out
      have c3:=(g.out.cell (p:=⟨bc,oc+k * 4+3,none⟩) B).trans au.out
      have i2:(0:Int)<=(j:Int):=by omega
      by_cases aB:j<m
      ·have aM:=dT (by omega:j<m)
       have U:j<ss.length:=by rw [J.out];exact aB
       obtain ⟨bp,op,aC,af,d0,d1⟩:=ap.out.pin (k:=j) U
       have aL:=Hd aC
       have aq:=aK g.out af
       rw [←g.out.cell (p:=⟨bp,op+j * 2,none⟩) af] at d0
       rw [←g.out.cell (p:=⟨bp,op+j * 2+1,none⟩) af] at d1
       have Y:Hid (gJ n (ss[j]?.getD bS.zero)→∀q,q<j+1→gJ n (ss[q]?.getD bS.zero)):=fun h=>bW ak.out h
       have HN:Hid (¬gJ n (ss[j]?.getD bS.zero)→¬jJ n cs):=fun h h'=>h (by
        rw [List.getElem?_eq_getElem U]
        exact (W.out h').sinks _ (List.getElem_mem U))
       clear U aC
       obtain rfl:=aL.out
       generalize ss[j]?.getD bS.zero=s at *
       obtain ⟨x,y⟩:=s
       simp only at d0 d1
       have i3:(j:Int)<(m:Int):=by omega
       go_wp2_with fail
       refine (uj n x y _).mono ?_
       by_cases hf:gJ n ⟨x,y⟩
       ·rw [ae hf]
        have al:=Hd (Y.out hf)
        rintro _ w4 ⟨rfl,Q⟩
        have ag:=Hd (aA g.out Q)
        clear Q d0 d1 Y HN hf aq c1 c2 c3 H
        go_wp2_with fail
        go_roundw
        ·exact ⟨j+1,by omega,by go_num,ag.out,al.out⟩
        simp [intOf];omega
       rw [bJ hf]
       have K:=Hd (HN.out hf)
       rintro _ w4 ⟨rfl,Q⟩
       have ag:=Hd (aA g.out Q)
       clear Q d0 d1 Y HN hf aq c1 c2 c3 H
       go_wp2_with fail
       go_ret
       exact ⟨aO K.out,ag.out⟩
      have av:j=m:=by omega
      have aM:=dF (by omega:m<=j)
      have al:=Hd (aI.out (fun p hp=>by
       obtain ⟨q,hq,rfl⟩:=List.getElem_of_mem hp
       have h:=ak.out q (by rw [av,←J.out];exact hq)
       rwa [List.getElem?_eq_getElem hq] at h))
      clear ak av
      go_wp2_with fail
      go_roundw
      ·exact ⟨k+1,by omega,by go_num,g.out,al.out⟩
      simp [intOf];omega
     rw [bJ hf]
     have K:Hid (¬jJ n cs):=fun h=>hf (W.out h).src
     rintro _ w4 ⟨rfl,Q⟩
     have ai:=Hd (aA u.out Q)
     clear Q c1 c2 c3 H Y hf
     go_wp2_with fail
     go_ret
     exact ⟨aO K.out,ai.out⟩
   have am:k=cn:=by omega
   have aQ:=dF (by omega:cn<=k)
   have K:Hid (jJ n cs):=⟨hn,by rw [ad.out];exact Z,fun c hc=>by
    obtain ⟨j,hj,rfl⟩:=List.getElem_of_mem hc
    have h:=R.out j (by rw [am,←ad.out];exact hj)
    rwa [List.getElem?_eq_getElem hj] at h⟩
   clear R am
   go_wp2_with fail
   go_ret
   exact ⟨dU K.out,u.out⟩
  have K:Hid (¬jJ n cs):=fun h=>Z (by rw [←V];exact h.len)
  have ar:decide ((100:Int)<(cn:Int))=true:=decide_eq_true (by omega)
  clear V
  go_enter Tryz.func115,Tryz.ntmps115
  go_wp2_with fail
  refine (aj n 0 64 _).mono ?_
  rw [H1.out]
  rintro _ w' ⟨rfl,rfl⟩
  go_wp2_with fail
  go_ret
  exact ⟨aO K.out,Below.refl _ _⟩
theorem Ce (d:Dev) (place:List Int) (N a b:Int) (ss:List bS) (PA SA:Option Addr) (pn pc m j:Nat) (w:World) (z:dP w PA pn place) (hs:RdC w w.heap.size (bR ss) (.slice SA m j)) (g:pn<=1048576) (B:m<=1048576) :
  Calls Tryz.prog 117 #[.agg (dv d),.slice PA pn pc,.agg #[.int .i64 N,.int .i64 a,.int .i64 b,.slice SA m j]] w fun e w'=>∃A q c,e = .returned (.slice A q c)/\(gy d place ⟨N,⟨a,b⟩,ss⟩/\m=q/\dP w' A m (dL d place ⟨N,⟨a,b⟩,ss⟩)∨¬gy d place ⟨N,⟨a,b⟩,ss⟩/\q=0)/\Below w.heap.size w w' :=
 (ui d place N a b ss PA SA pn pc m j w z hs g B).mono fun e w' ⟨h,u⟩=>by
  rcases h with ⟨h1,A,c,h2,h3⟩|⟨h1,A,c,h2⟩
  ·exact ⟨A,m,c,h2,.inl ⟨h1,rfl,h3.ints⟩,u⟩
  exact ⟨A,0,c,h2,.inr ⟨h1,rfl⟩,u⟩
theorem qw (d:Dev) (place:List Int) (cs:List Cn) (rs:List Rou) (PA CA RA:Option Addr) (pn pc cn cc rn rc:Nat) (w:World) (hp:dP w PA pn place) (hC:RdC w w.heap.size (ah cs) (.slice CA cn cc)) (hR:RdC w w.heap.size (bH rs) (.slice RA rn rc)) (bu:pn<=1048576) (I:∀c∈cs,c.sinks.length<=1048576) (V:∀r∈rs,r.nodes.length<=1048576/\r.from_.length<=1048576) :
  Calls Tryz.prog 40 #[.agg (dv d),.slice PA pn pc,.slice CA cn cc,.slice RA rn rc] w fun e w'=>e = .returned (.bool (tb (fA d place cs rs)))/\Below w.heap.size w w':=by
 obtain ⟨HP,HC,ak,cr⟩:=hd4 hp hC hC.cnN hR
 have au:=hR.rouN
 obtain ⟨aQ,bE⟩:=hd2 I V
 clear hp hC hR I V
 have bx:(place.length:Int)=(pn:Int):=by rw [HP.out.1]
 have Y:=Hd (aB (Below.refl w.heap.size w) (.cells (dv d) 36))
 have aM:=Hd (aI w (.cells (dv d) 36))
 obtain ⟨x0,x1,Z,x3,R⟩:=cO (aM.out)
 by_cases B:jJ (place.length:Int) cs
 ·have bs:=Hd B
  rw [bx] at B
  by_cases h1:rn=cn
  ·subst h1
   obtain ⟨cn,rfl⟩:∃x,x=rn:=⟨rn,rfl⟩
   have a3:=Hd au
   have cg:cn<=100:=by rw [←ak.out];exact B.len
   have d1:((cn:Int) != (cn:Int))=false:=by simp
   clear au
   go_enter Tryz.func40,Tryz.ntmps40
   go_upto_region 1 with fail
   generalize w.alloc (.cells (dv d) 36)=W9 at *
   clear x0 x1 Z x3 R
   go_wp2_with fail
   refine (pg (pn:Int) cs CA cn cc _ (HC.out.below Y.out) aQ.out).mono ?_
   rw [ae B]
   rintro _ wq ⟨rfl,u⟩
   have aR:=Hd (aD u aM.out)
   have HD:=Hd (aA Y.out u)
   clear u
   obtain ⟨NR,hN⟩:∃N:Nat,ik d=(N:Int):=by
    cases hd:dR d with
    | true=>have:=fZ hd;exact ⟨(ik d).toNat,by unfold ik;rw [if_pos hd];omega⟩
    | false=>exact ⟨0,by unfold ik;rw [hd];rfl⟩
   have cV:NR<=828:=by
    have h:=hN
    unfold ik at h
    split at h
    ·rename_i cb
     have:=fZ cb
     omega
    omega
   have aX:=Hd hN
   clear hN
   obtain ⟨x0,x1,Z,x3,R⟩:=cO (aR.out)
   go_wp2_with fail
   refine (gP d _).mono ?_
   rw [aX.out]
   rintro _ W0 ⟨rfl,bz⟩
   have co:=Hd (aD bz aR.out)
   have cv:=Hd (aA HD.out bz)
   clear bz x0 x1 Z x3 R HD
   have HD:=cv
   have b7:=ni NR (by omega)
   have b2:=Hd ((aJ.refl W0).pushRowB NR)
   go_wp2_with fail
   clear b7
   go_loopw [10] (fun i wr=>∃k:Nat,k<=cn/\i = .int .i64 (k:Int)/\aJ W0 wr [rq W0.heap.size NR ((rs.take k).flatMap Rou.nodes)]/\(∀j,j<k→gy d place (cs[j]?.getD Cn.zero)/\dB d (fQ d place (cs[j]?.getD Cn.zero)) (dL d place (cs[j]?.getD Cn.zero)) (rs[j]?.getD Rou.zero))/\((rs.take k).flatMap Rou.nodes).Nodup) (fun i _=>cn - (intOf i).toNat)
   ·exact ⟨0,by omega,rfl,b2.out,fun j hj=>by omega,by simp⟩
   obtain ⟨k,hk,rfl,hs,aU,al⟩:=hrel
   obtain ⟨HS,aq,a4⟩:=hd3 hs aU al
   have g:=Hd (aA HD.out hs.bel)
   have bt:=Hd (aD hs.bel co.out)
   clear hs aU al
   by_cases bN:k<cn
   ·have cl:=dT (by omega:k<cn)
    have U:k<cs.length:=by rw [ak.out];exact bN
    have ap:k<rs.length:=by rw [a3.out];exact bN
    obtain ⟨bc,oc,SA,m,mc,bv,I,c0,c1,c2,c3,bg⟩:=HC.out.cn (k:=k) U
    obtain ⟨br,ob,NA,nn,nc,FA,fn,fc,bk,V,e0,e1,a9,a5⟩:=cr.out.rou (k:=k) ap
    obtain ⟨ce,cu⟩:=hd2 bv bk
    have bw:Hid (∀v,Below w.heap.size w v→v.cell? ⟨br,ob+k * 2,none⟩=some (.slice NA nn nc)):=fun v D=>(D.cell (p:=⟨br,ob+k * 2,none⟩) V).trans e0
    have b6:Hid (∀v,Below w.heap.size w v→v.cell? ⟨br,ob+k * 2+1,none⟩=some (.slice FA fn fc)):=fun v D=>(D.cell (p:=⟨br,ob+k * 2+1,none⟩) V).trans e1
    have B:oz (place.length:Int) (cs[k]?.getD Cn.zero):=by rw [List.getElem?_eq_getElem U];exact bs.out.fit _ (List.getElem_mem U)
    have hg:gy d place (cs[k]?.getD Cn.zero)/\dB d (fQ d place (cs[k]?.getD Cn.zero)) (dL d place (cs[k]?.getD Cn.zero)) (rs[k]?.getD Rou.zero)→∀j,j<k+1→gy d place (cs[j]?.getD Cn.zero)/\dB d (fQ d place (cs[j]?.getD Cn.zero)) (dL d place (cs[j]?.getD Cn.zero)) (rs[j]?.getD Rou.zero):=fun h=>bW aq.out h
    have bI:fA d place cs rs→gy d place (cs[k]?.getD Cn.zero)/\dB d (fQ d place (cs[k]?.getD Cn.zero)) (dL d place (cs[k]?.getD Cn.zero)) (rs[k]?.getD Rou.zero):=fun h=>h.fit k U
    have aL:=aQ.out _ (List.getElem_mem U)
    rw [show cs[k]=cs[k]?.getD Cn.zero by rw [List.getElem?_eq_getElem U];rfl] at aL
    have K:=bE.out _ (List.getElem_mem ap)
    rw [show rs[k]=rs[k]?.getD Rou.zero by rw [List.getElem?_eq_getElem ap];rfl] at K
    have a2:(rs.take (k+1)).flatMap Rou.nodes=(rs.take k).flatMap Rou.nodes++(rs[k]?.getD Rou.zero).nodes:=by
     rw [bU (z:=Rou.zero) ap,List.flatMap_append,List.flatMap_singleton]
    have bf:fA d place cs rs→((rs.take k).flatMap Rou.nodes++(rs[k]?.getD Rou.zero).nodes).Nodup:=fun h=>by
     have h1:=h.once
     rw [←List.take_append_drop (k+1) rs,List.flatMap_append,a2] at h1
     exact (List.nodup_append.1 h1).1
    obtain ⟨HG,ax,a8,bD⟩:=hd4 hg bI a2 bf
    clear U ap hg bI bv bk a2 bf e0 e1
    obtain rfl:=ce.out
    obtain rfl:=cu.out
    generalize cs[k]?.getD Cn.zero=cx at *
    generalize rs[k]?.getD Rou.zero=rx at *
    obtain ⟨N,⟨a,b⟩,ss⟩:=cx
    obtain ⟨Q,fs⟩:=rx
    simp only at c0 c1 c2 c3 aL K a8 bD a9 a5
    have bM:=Hd (fun (v:World) (D:Below w.heap.size w v)=>(D.cell (p:=⟨bc,oc+k * 4,none⟩) I).trans c0)
    have bL:=Hd (fun (v:World) (D:Below w.heap.size w v)=>(D.cell (p:=⟨bc,oc+k * 4+1,none⟩) I).trans c1)
    have bO:=Hd (fun (v:World) (D:Below w.heap.size w v)=>(D.cell (p:=⟨bc,oc+k * 4+2,none⟩) I).trans c2)
    have bp:=Hd (fun (v:World) (D:Below w.heap.size w v)=>(D.cell (p:=⟨bc,oc+k * 4+3,none⟩) I).trans c3)
    clear c0 c1 c2 c3
    have bj:=Hd (show RdC w w.heap.size (bR ss) (.slice SA m mc) from bg)
    have bB:Hid (ss.length=m):=bj.out.pinN
    have hm:m<=1048576:=by rw [←bB.out];exact aL
    have cY:1<=m:=by have h1:=B.len.1;rw [show (⟨N,⟨a,b⟩,ss⟩:Cn).sinks=ss from rfl,bB.out] at h1;exact h1
    have HN:=Hd (a9.ints)
    have HF:=Hd (a5.ints)
    have b4:nn<=1048576:=by rw [←HN.out.1];exact K.1
    have ci:fn<=1048576:=by rw [←HF.out.1];exact K.2
    obtain ⟨i0,i1⟩:=ib (by omega:k<cn)
    clear bg a9 a5 aL K B
    have c0:=bM.out _ g.out
    have c1:=bL.out _ g.out
    have c2:=bO.out _ g.out
    have c3:=bp.out _ g.out
    have H:=aK g.out I
    obtain ⟨x0,x1,Z,x3,R⟩:=cO (bt.out)
    have b3:=Hd (fun (v:World) (D:Below wr.heap.size wr v)=>Ce d place N a b ss PA SA pn pc m mc v (HP.out.below (aA g.out D)) (bj.out.below (aA g.out D)) bu hm)
    have am:Hid (∀w',Below wr.heap.size wr w'→(KD w' w.heap.size d (w'.cell? ⟨bc,oc+k * 4,none⟩=some (.int .i64 N)/\w'.cell? ⟨bc,oc+k * 4+1,none⟩=some (.int .i64 a)/\w'.cell? ⟨bc,oc+k * 4+2,none⟩=some (.int .i64 b)/\w'.cell? ⟨bc,oc+k * 4+3,none⟩=some (.slice SA m mc)))):=fun v D=>⟨(D.cell (p:=⟨w.heap.size,0,none⟩) R).trans x0,(D.cell (p:=⟨w.heap.size,1,none⟩) R).trans x1,(D.cell (p:=⟨w.heap.size,2,none⟩) R).trans Z,(D.cell (p:=⟨w.heap.size,3,none⟩) R).trans x3,(D.cell (p:=⟨bc,oc+k * 4,none⟩) H).trans c0,(D.cell (p:=⟨bc,oc+k * 4+1,none⟩) H).trans c1,(D.cell (p:=⟨bc,oc+k * 4+2,none⟩) H).trans c2,(D.cell (p:=⟨bc,oc+k * 4+3,none⟩) H).trans c3⟩
    have u:=(Below.refl wr.heap.size wr).drew
    go_upto_region 7 with fail
    go_region_held3 (fun w'=>KD w' w.heap.size d (w'.cell? ⟨bc,oc+k * 4,none⟩=some (.int .i64 N)/\w'.cell? ⟨bc,oc+k * 4+1,none⟩=some (.int .i64 a)/\w'.cell? ⟨bc,oc+k * 4+2,none⟩=some (.int .i64 b)/\w'.cell? ⟨bc,oc+k * 4+3,none⟩=some (.slice SA m mc)))
     (first|exact am.out _ u)
     ((first
      | (go_at_call 117;(with_reducible refine (b3.out _ u).mono ?_);rintro e5 w5 ⟨A,m',c,rfl,o5,b5⟩;have O5:=Hd o5;replace u:=aA u b5;clear b5 o5)))
    obtain ⟨w7,rfl⟩:∃x,x=w5:=⟨w5,rfl⟩
    have aH:=Hd (HS.out.below u)
    have ch:=Hd (aD u bt.out)
    have G:=Hd (aA HD.out aH.out.bel)
    clear x0 x1 Z x3 R c0 c1 c2 c3 H u am
    have c0:=bM.out _ G.out
    have c1:=bL.out _ G.out
    have c2:=bO.out _ G.out
    have c3:=bp.out _ G.out
    have H:=aK G.out I
    have d0:=bw.out _ G.out
    have d1:=b6.out _ G.out
    have aF:=aK G.out V
    obtain ⟨x0,x1,Z,x3,R⟩:=cO (ch.out)
    rcases O5.out with ⟨aw,rfl,o7⟩|⟨aw,rfl⟩
    ·obtain ⟨O7,b0⟩:=hd2 o7 aw
     clear o7 aw
     have a7:Hid (fA d place cs rs→dB d (fQ d place ⟨N,⟨a,b⟩,ss⟩) (dL d place ⟨N,⟨a,b⟩,ss⟩) ⟨Q,fs⟩):=fun h=>(ax.out h).2
     have dm:((m:Int)==0)=false:=by simp;omega
     have bG:=(fun (x:Sub w7)=>uG d place N a b ss PA SA pn pc m mc x.v (HP.out.below (aA G.out x.h)) bu)
     have bo:=Hd bG
     clear bG
     have b8:Hid (∀s∈dL d place ⟨N,⟨a,b⟩,ss⟩,mP s):=fun s hs=>by
      unfold dL at hs
      obtain ⟨p,_,rfl⟩:=List.mem_map.1 hs
      exact ES d place p
     have W:=(fun (x:Sub w7)=>yM d (fQ d place ⟨N,⟨a,b⟩,ss⟩) (dL d place ⟨N,⟨a,b⟩,ss⟩) ⟨Q,fs⟩ A NA FA m c nn nc fn fc x.v (O7.out.below x.h) (HN.out.below (aA G.out x.h)) (HF.out.below (aA G.out x.h)) hm b4 ci b8.out)
     by_cases hf:dB d (fQ d place ⟨N,⟨a,b⟩,ss⟩) (dL d place ⟨N,⟨a,b⟩,ss⟩) ⟨Q,fs⟩
     ·rw [ae hf] at W
      have bb:=Hd W
      have cy:=Hd (HG.out ⟨b0.out,hf⟩)
      have bZ:Hid (∀s∈Q,0<=s/\s<(NR:Int)):=fun s hs=>by
       have h1:=hf.node s hs
       unfold bQ at h1
       rw [Bool.and_eq_true] at h1
       have h2:=mq.1 h1.1
       rw [aX.out] at h2
       exact h2
      clear W HG ax a7 hf
      go_upto_region 8 with fail
      have J:=aY w7
      have av:=aP w7
      refine wpB w7 ?_
      repeat (go_big_quiet_step ((first
       | (go_at_call 119;with_reducible exact aN (bo.out _))
       | (go_at_call 118;with_reducible exact aN (bb.out _)))))
      refine wpQuiet_nil ?_
      rintro wq ⟨⟨w5,u⟩,hw⟩
      replace hw:wq=w5:=hw
      subst hw
      clear J av
      have ao:=Hd (aH.out.below u)
      clear u x0 x1 Z x3 R c0 c1 c2 c3 H d0 d1 aF
      go_wp2_with fail
      go_loopw [12] (fun i wr=>∃q:Nat,q<=nn/\i = .int .i64 (q:Int)/\aJ W0 wr [rq W0.heap.size NR ((rs.take k).flatMap Rou.nodes++Q.take q)]/\((rs.take k).flatMap Rou.nodes++Q.take q).Nodup) (fun i _=>nn - (intOf i).toNat)
      ·exact ⟨0,by omega,rfl,by rw [List.take_zero,List.append_nil];exact ao.out,by rw [List.take_zero,List.append_nil];exact a4.out⟩
      obtain ⟨q,hq,rfl,hs,al⟩:=hrel
      obtain ⟨HS,a6⟩:=hd2 hs al
      have g:=Hd (aA HD.out hs.bel)
      clear hs al
      have d0:=bw.out _ g.out
      have aF:=aK g.out V
      by_cases aV:q<nn
      ·have b9:=dT (by omega:q<nn)
       have aE:q<Q.length:=by rw [HN.out.1];exact aV
       obtain ⟨bn,cw,bh,bC,bK⟩:=HN.out.2 (by omega)
       have b1:=Hd bh
       have cq:=(g.out.cell (p:=⟨bn,cw+q,none⟩) bC).trans (bK q aV)
       have cR:=aK g.out bC
       have hR:=bZ.out _ (List.getElem_mem aE)
       rw [show Q[q]=Q[q]?.getD 0 by rw [List.getElem?_eq_getElem aE];rfl] at hR
       have a0:=Hd (bU (z:=0) aE)
       clear bK aE bh
       obtain rfl:=b1.out
       generalize Q[q]?.getD 0=n at *
       obtain ⟨X,rfl⟩:∃X:Nat,n=(X:Int):=⟨n.toNat,by omega⟩
       have cp:X<NR:=by omega
       obtain ⟨cW,cN⟩:=ib (by omega:X<NR)
       obtain ⟨cL,cP⟩:=ib (by omega:q<nn)
       obtain ⟨q1,q2,⟨cX,q3⟩,q4⟩:=HS.out.truth 0 (k:=X) rfl cp
       have ct:=Hd q4
       clear q4 hR
       by_cases hm:(X:Int)∈(rs.take k).flatMap Rou.nodes++Q.take q
       ·rw [decide_eq_true hm] at q1
        have HR:Hid (¬fA d place cs rs):=fun h=>by
         have h1:=bD.out h
         have h2:(((rs.take k).flatMap Rou.nodes++Q.take q)++[(X:Int)]).Nodup:=by
          have h3:(((rs.take k).flatMap Rou.nodes++Q.take (q+1))++Q.drop (q+1)).Nodup:=by
           rw [List.append_assoc,List.take_append_drop]
           exact h1
          have h4:=(List.nodup_append.1 h3).1
          rw [a0.out,←List.append_assoc] at h4
          exact h4
         exact (dZ.1 h2).2 hm
        clear hm
        go_wp2_with fail
        go_ret
        exact ⟨aO HR.out,g.out⟩
       rw [decide_eq_false hm] at q1
       have HM:=Hd hm
       clear hm
       go_wp2_with fail
       go_roundw
       ·exact ⟨q+1,by omega,by go_num,by rw [a0.out,←List.append_assoc];exact ct.out,by rw [a0.out,←List.append_assoc,dZ];exact ⟨a6.out,HM.out⟩⟩
       simp [intOf];omega
      have bF:q=nn:=by omega
      have b9:=dF (by omega:nn<=q)
      have cd:Hid (Q.take q=Q):=by show _=_;rw [bF];exact List.take_of_length_le (by rw [HN.out.1];exact Nat.le_refl _)
      rw [cd.out] at HS a6
      clear bF
      go_wp2_with fail
      go_roundw
      ·exact ⟨k+1,by omega,by go_num,by rw [a8.out];exact HS.out,cy.out,by rw [a8.out];exact a6.out⟩
      simp [intOf];omega
     rw [bJ hf] at W
     have bb:=Hd W
     have HR:Hid (¬fA d place cs rs):=fun h=>hf (a7.out h)
     clear W HG ax a7 hf
     go_upto_region 8 with fail
     have J:=aY w7
     have av:=aP w7
     refine wpB w7 ?_
     repeat (go_big_quiet_step ((first
      | (go_at_call 119;with_reducible exact aN (bo.out _))
      | (go_at_call 118;with_reducible exact aN (bb.out _)))))
     refine wpQuiet_nil ?_
     rintro wq ⟨⟨w5,u⟩,hw⟩
     replace hw:wq=w5:=hw
     subst hw
     clear J av
     have ao:=Hd (aH.out.below u)
     clear u x0 x1 Z x3 R c0 c1 c2 c3 H d0 d1 aF
     have a1:=Hd (aA HD.out ao.out.bel)
     go_wp2_with fail
     go_ret
     exact ⟨aO HR.out,a1.out⟩
    have HR:Hid (¬fA d place cs rs):=fun h=>aw (ax.out h).1
    clear HG ax aw
    go_upto_region 8 with fail
    have J:=aY w7
    have av:=aP w7
    refine wpB w7 ?_
    repeat (go_big_quiet_step ((fail)))
    refine wpQuiet_nil ?_
    rintro wq ⟨⟨w5,u⟩,hw⟩
    replace hw:wq=w5:=hw
    subst hw
    clear J av
    have ao:=Hd (aH.out.below u)
    clear u x0 x1 Z x3 R c0 c1 c2 c3 H d0 d1 aF
    have a1:=Hd (aA HD.out ao.out.bel)
    go_wp2_with fail
    go_ret
    exact ⟨aO HR.out,a1.out⟩
   have aZ:k=cn:=by omega
   have cl:=dF (by omega:cn<=k)
   have HR:Hid (fA d place cs rs):=by
    refine ⟨bs.out,by rw [a3.out,ak.out],fun j hj=>aq.out j (by rw [aZ,←ak.out];exact hj),?_⟩
    have h:=a4.out
    rwa [List.take_of_length_le (by rw [a3.out,aZ];exact Nat.le_refl _)] at h
   clear aq a4 aZ
   go_wp2_with fail
   go_ret
   exact ⟨dU HR.out,g.out⟩
  have HR:Hid (¬fA d place cs rs):=fun h=>h1 (by rw [←au,h.len,ak.out])
  have d1:((rn:Int) != (cn:Int))=true:=by simp;omega
  clear h1 au
  go_enter Tryz.func40,Tryz.ntmps40
  go_upto_region 1 with fail
  generalize w.alloc (.cells (dv d) 36)=W9 at *
  clear x0 x1 Z x3 R
  go_wp2_with fail
  refine (pg (pn:Int) cs CA cn cc _ (HC.out.below Y.out) aQ.out).mono ?_
  rw [ae B]
  rintro _ wq ⟨rfl,u⟩
  have aR:=Hd (aD u aM.out)
  have HD:=Hd (aA Y.out u)
  clear u
  go_wp2_with fail
  go_ret
  exact ⟨aO HR.out,HD.out⟩
 have HR:Hid (¬fA d place cs rs):=fun h=>B h.conns
 rw [bx] at B
 clear au
 go_enter Tryz.func40,Tryz.ntmps40
 go_upto_region 1 with fail
 generalize w.alloc (.cells (dv d) 36)=W9 at *
 clear x0 x1 Z x3 R
 go_wp2_with fail
 refine (pg (pn:Int) cs CA cn cc _ (HC.out.below Y.out) aQ.out).mono ?_
 rw [bJ B]
 rintro _ wq ⟨rfl,u⟩
 have aR:=Hd (aD u aM.out)
 have HD:=Hd (aA Y.out u)
 clear u
 go_wp2_with fail
 go_ret
 exact ⟨aO HR.out,HD.out⟩
theorem mU (l:ag) (SA LA OA:Option Addr) (sn sc ln lc on oc:Nat) (bs:List Blk) (BA:Option Addr) (bn bc:Nat) (w:World) (h:fU w l SA LA OA sn sc ln lc on oc) (hB:RdC w w.heap.size (aa bs) (.slice BA bn bc)) (hp:fq l bs) :
  Calls Tryz.prog 37 #[jE l SA LA OA sn sc ln lc on oc,.slice BA bn bc] w fun e w'=>∃A n c,e = .returned (.slice A n c)/\gI w.heap.size w'.heap.size w' (ah (eY l bs)) (.slice A n c)/\Below w.heap.size w w':=by
 have z:=Hd (aB (Below.refl w.heap.size w) (.cells (ai l SA LA OA sn sc ln lc on oc) 41))
 have D:=Hd (aI w (.cells (ai l SA LA OA sn sc ln lc on oc) 41))
 have a4:=hB.blkN
 obtain ⟨af,HB,HN,HP,HF,ax⟩:=hd6 a4 hB h hp hp.net hp.fit
 have bC:=hp.len
 rw [a4] at bC
 have di:Hid (∀i,i<=bn→(kw l bs i).length<=2 * i):=fun i hi=>qo ax.out (by rw [af.out];exact hi)
 have cY:Hid (∀b∈bs,b.les.length<=1048576):=fun b hb=>by have:=lT (ax.out b hb);omega
 clear hB a4 h hp
 obtain ⟨cz,bF,bO,bW,bx⟩:=info_parts xG
 obtain ⟨c3,b3,bU,bV,bA⟩:=info_parts zu
 obtain ⟨cM,bN,bT,bK,b4⟩:=info_parts xH
 have aV:=Hd (And.intro bF (And.intro bO (And.intro bW bx)))
 have aU:=Hd (And.intro b3 (And.intro bU (And.intro bV bA)))
 have aQ:=Hd (And.intro bN (And.intro bT (And.intro bK b4)))
 clear bF bO bW bx b3 bU bV bA bN bT bK b4
 go_enter Tryz.func37,Tryz.ntmps37
 go_upto_region 1 with fail
 generalize w.alloc (.cells (ai l SA LA OA sn sc ln lc on oc) 41)=Y at *
 have a6:=Hd ((aJ.refl Y).pushNew 158 4)
 obtain ⟨x0,x1,x2,x3,lx⟩:=cO D.out
 go_wp2_with fail
 refine (kS l SA LA OA sn sc ln lc on oc bs BA bn bc _ (HN.out.below (aA z.out a6.out.bel)) (HB.out.below (aA z.out a6.out.bel)) cY.out).mono ?_
 rw [ae HP.out]
 rintro _ w1 ⟨rfl,b1⟩
 have cJ:=Hd (a6.out.below b1)
 have cx:=Hd (cJ.out.pushNew 26 1)
 clear b1 x0 x1 x2 x3 lx
 go_wp2_with fail
 go_loopw [6,7] (fun v i wr=>∃(k:Nat) (A:Option Addr) (c:Nat),k<=bn/\i = .int .i64 (k:Int)/\v = .slice A k c/\aJ Y wr [.cel (ah []) (.slice (some ⟨Y.heap.size,0,none⟩) 0 0),.cel (vV ((bs.take k).map (jA l))) (.slice A k c)]) (fun _ i _=>bn - (intOf i).toNat)
 ·exact ⟨0,_,_,by omega,rfl,rfl,cx.out⟩
 obtain ⟨k,A1,cA,hk,rfl,rfl,hs⟩:=hrel
 have W:=Hd hs
 clear hs
 by_cases bk:k<bn
 ·have bf:=dT (by omega:k<bn)
  have I:k<bs.length:=by rw [af.out];exact bk
  obtain ⟨R,U,EA,en,ec,au,Q,c0,c1,c2,r2⟩:=HB.out.blk (k:=k) I
  have be:=Hd au
  have H:=ax.out _ (List.getElem_mem I)
  rw [show bs[k]=bs[k]?.getD Blk.zero by rw [List.getElem?_eq_getElem I];rfl] at H
  have J:=Hd (show (bs.take (k+1)).map (jA l)=(bs.take k).map (jA l)++[jA l (bs[k]?.getD Blk.zero)] from by rw [mr I,List.map_append];rfl)
  clear I au
  generalize bs[k]?.getD Blk.zero=b at *
  obtain ⟨kd,it,es⟩:=b
  simp only at c0 c1
  have HE:=Hd (show RdC w w.heap.size (cZ es) (.slice EA en ec) from r2)
  have av:es.length=en:=HE.out.esN
  have cK:en<=2:=by rw [←av];exact lT H
  have a3:=Hd H.1
  obtain rfl:=be.out
  obtain ⟨i0,i1⟩:=ib (by omega:k<bn)
  have B:Hid (∀w',Below Y.heap.size Y w'→(K4 w' w.heap.size (.int .i64 l.inputs) (.slice SA sn sc) (.slice LA ln lc) (.slice OA on oc) (w'.cell? ⟨R,U+k * 3,none⟩=some (.int .i64 kd)/\w'.cell? ⟨R,U+k * 3+1,none⟩=some (.int .i64 it)/\w'.cell? ⟨R,U+k * 3+2,none⟩=some (.slice EA en ec)))):=fun v G=>⟨aF (k:=0) (aD G D.out) rfl,aF (k:=1) (aD G D.out) rfl,aF (k:=2) (aD G D.out) rfl,aF (k:=3) (aD G D.out) rfl,((aA z.out G).cell (p:=⟨R,U+k * 3,none⟩) Q).trans c0,((aA z.out G).cell (p:=⟨R,U+k * 3+1,none⟩) Q).trans c1,((aA z.out G).cell (p:=⟨R,U+k * 3+2,none⟩) Q).trans c2⟩
  clear r2 av H c0 c1 c2
  obtain ⟨x0,x1,x2,x3,c0,c1,c2⟩:=B.out _ W.out.bel
  have lx:=aC (aD W.out.bel D.out)
  have bL:=aK (aA z.out W.out.bel) Q
  have hS:=Hd W.out.drew
  have V:=hS.out.bel
  have a7:=Hd (fun (v:World) (G:Below Y.heap.size Y v)=>wI l SA LA OA sn sc ln lc on oc kd it es EA en ec v (HN.out.below (aA z.out G)) HF.out (HE.out.below (aA z.out G)) a3.out (by omega))
  go_upto_region 8 with fail
  go_region_held3 (fun w'=>K4 w' w.heap.size (.int .i64 l.inputs) (.slice SA sn sc) (.slice LA ln lc) (.slice OA on oc) (w'.cell? ⟨R,U+k * 3,none⟩=some (.int .i64 kd)/\w'.cell? ⟨R,U+k * 3+1,none⟩=some (.int .i64 it)/\w'.cell? ⟨R,U+k * 3+2,none⟩=some (.slice EA en ec)))
   (first|with_reducible exact B.out _ V|with_reducible exact B.out _ (aB V _))
   ((first
    | (go_at_call 111;(with_reducible refine (a7.out _ V).mono ?_);rintro e5 w5 ⟨PA,pn,pc,rfl,op,b5⟩;replace V:=aA V b5;have c5:=Hd (sw hS.out b5 op);clear b5 op)
    | (refine wG rfl _ _ 50 26 (by rfl) cz _ 1 24 Tryz.underlying50 aV.out.1 aV.out.2.1 aV.out.2.2.1 aV.out.2.2.2 rfl (by decide) (by decide) _ (c5.out.alloc (.cells #[.slice PA pn pc] 26)) 2 0 (by decide) k cA _ A1 (((bs.take k).map (jA l)).map aH) _ #[.slice PA pn pc] _ rfl rfl (by rfl) (by rfl) (aI _ _) rfl (by omega) ?_;intro g9 aT w9 S9 aq;have co:=Hd S9.tail;replace V:=S9.tail.bel;clear S9 aq)))
  go_wp2_with fail
  go_roundw
  ·exact ⟨k+1,_,_,by omega,by go_num,rfl,by rw [J.out,xI];exact co.out⟩
  simp [intOf];omega
 have aG:k=bn:=by omega
 have bf:=dF (by omega:bn<=k)
 have J:Hid (bs.take k=bs):=by show _=_;rw [aG];exact List.take_of_length_le (by rw [af.out];exact Nat.le_refl _)
 rw [J.out] at W
 obtain ⟨u,ar⟩:∃u,bs.map (jA l)=u:=⟨_,rfl⟩
 rw [ar] at W
 have cT:=Hd ar
 have bZ:Hid (u.length=bn):=by show _=_;rw [←ar,List.length_map,af.out]
 have cm:Hid (∀ps∈u,ps.length<=5):=fun ps hp=>by
  rw [←ar] at hp
  obtain ⟨b,hb,rfl⟩:=List.mem_map.1 hp
  exact yl HF.out (ax.out b hb)
 subst aG
 clear ar J
 have cR:=W
 clear W
 obtain ⟨PA,rfl⟩:∃y,y=A1:=⟨A1,rfl⟩
 obtain ⟨pc,rfl⟩:∃y,y=cA:=⟨cA,rfl⟩
 obtain ⟨bn,rfl⟩:∃y,y=k:=⟨k,rfl⟩
 go_wp2_with fail
 go_loopw [5,8] (fun v i wr=>∃(k:Nat) (A:Option Addr) (n c:Nat),k<=bn/\i = .int .i64 (k:Int)/\v = .slice A n c/\n<=2 * k/\aJ Y wr [.cel (ah (kw l bs k)) (.slice A n c),.cel (vV u) (.slice PA bn pc)]) (fun _ i _=>bn - (intOf i).toNat)
 ·exact ⟨0,_,0,_,by omega,rfl,rfl,by omega,cR.out⟩
 obtain ⟨k,A1,n1,cA,hk,rfl,rfl,dn,hs⟩:=hrel
 have W:=Hd hs
 clear hs
 by_cases bk:k<bn
 ·have bf:=dT (by omega:k<bn)
  have I:k<bs.length:=by rw [af.out];exact bk
  obtain ⟨R,U,EA,en,ec,au,Q,c0,c1,c2,r2⟩:=HB.out.blk (k:=k) I
  have be:=Hd au
  have H:=ax.out _ (List.getElem_mem I)
  rw [show bs[k]=bs[k]?.getD Blk.zero by rw [List.getElem?_eq_getElem I];rfl] at H
  have aZ:=uY H
  have J:=Hd (qQ l bs k)
  rw [cT.out] at J
  clear I au
  generalize bs[k]?.getD Blk.zero=b at *
  obtain ⟨kd,it,es⟩:=b
  simp only at c0 c1
  have HE:=Hd (show RdC w w.heap.size (cZ es) (.slice EA en ec) from r2)
  have av:es.length=en:=HE.out.esN
  have cK:en<=2:=by rw [←av];exact lT H
  have a3:=Hd H.1
  obtain rfl:=be.out
  obtain ⟨i0,i1⟩:=ib (by omega:k<bn)
  have B:Hid (∀w',Below Y.heap.size Y w'→(K4 w' w.heap.size (.int .i64 l.inputs) (.slice SA sn sc) (.slice LA ln lc) (.slice OA on oc) (w'.cell? ⟨R,U+k * 3,none⟩=some (.int .i64 kd)/\w'.cell? ⟨R,U+k * 3+1,none⟩=some (.int .i64 it)/\w'.cell? ⟨R,U+k * 3+2,none⟩=some (.slice EA en ec)))):=fun v G=>⟨aF (k:=0) (aD G D.out) rfl,aF (k:=1) (aD G D.out) rfl,aF (k:=2) (aD G D.out) rfl,aF (k:=3) (aD G D.out) rfl,((aA z.out G).cell (p:=⟨R,U+k * 3,none⟩) Q).trans c0,((aA z.out G).cell (p:=⟨R,U+k * 3+1,none⟩) Q).trans c1,((aA z.out G).cell (p:=⟨R,U+k * 3+2,none⟩) Q).trans c2⟩
  clear r2 av H c0 c1 c2
  obtain ⟨x0,x1,x2,x3,c0,c1,c2⟩:=B.out _ W.out.bel
  have lx:=aC (aD W.out.bel D.out)
  have bL:=aK (aA z.out W.out.bel) Q
  have hS:=Hd W.out.drew
  have V:=hS.out.bel
  have a7:=Hd (fun (v:World) (G:Below Y.heap.size Y v)=>wH l SA LA OA sn sc ln lc on oc kd it es EA en ec v (HN.out.below (aA z.out G)) HF.out (HE.out.below (aA z.out G)) a3.out (by omega))
  go_upto_region 12 with fail
  go_region_held3 (fun w'=>K4 w' w.heap.size (.int .i64 l.inputs) (.slice SA sn sc) (.slice LA ln lc) (.slice OA on oc) (w'.cell? ⟨R,U+k * 3,none⟩=some (.int .i64 kd)/\w'.cell? ⟨R,U+k * 3+1,none⟩=some (.int .i64 it)/\w'.cell? ⟨R,U+k * 3+2,none⟩=some (.slice EA en ec)))
   (first|with_reducible exact B.out _ V)
   ((first
    | (go_at_call 112;(with_reducible refine (a7.out _ V).mono ?_);rintro e5 w5 ⟨UA,un,uc,rfl,ou,b5⟩;replace V:=aA V b5;have bE:=Hd ou.len;have b6:=Hd (hS.out.pushOwn b5 ou);clear b5 ou)))
  have ds:un<=2:=by rw [←bE.out];exact aZ
  clear aZ bE hS V B x0 x1 x2 x3 lx c0 c1 c2 bL
  generalize kD l ⟨kd,it,es⟩=Z at *
  generalize kw l bs k=CT at *
  have cN:=Hd (b6.out.ints 2 rfl).1
  rw [cN.out] at J
  go_wp2_with fail
  go_loopw [5,10] (fun v i wr=>∃(p:Nat) (A:Option Addr) (n c:Nat),p<=un/\i = .int .i64 (p:Int)/\v = .slice A n c/\n<=2 * k+p/\aJ Y wr [.cel (ah (CT++iO u k Z p)) (.slice A n c),.cel (vV u) (.slice PA bn pc),.cel (aH Z) (.slice UA un uc)]) (fun _ i _=>un - (intOf i).toNat)
  ·exact ⟨0,_,_,_,by omega,rfl,rfl,by omega,by simpa [iO] using b6.out⟩
  obtain ⟨p,A2,n2,cB,hp,rfl,rfl,cI,hs⟩:=hrel
  have aR:=Hd hs
  clear hs
  by_cases a1:p<un
  ·have cC:=dT (by omega:p<un)
   obtain ⟨bu,ou,bY,cl,ay⟩:=(aR.out.ints 2 rfl).2 (by omega)
   have cw:=Hd bY
   have cu:=ay p a1
   have bd:=Hd (rQ u k Z p)
   obtain ⟨N,hN⟩:∃N,Z[p]?.getD 0=N:=⟨_,rfl⟩
   rw [hN] at cu bd
   have cX:=Hd hN
   obtain rfl:=cw.out
   clear ay bY hN
   obtain ⟨i2,i3⟩:=ib (by omega:p<un)
   have bG:Hid (aJ Y (wr.alloc (.cells #[.int .i64 N,.int .i64 (k:Int),.int .i64 (p:Int),.slice none 0 0] 158)) [.cel (ah (CT++iO u k Z p)) (.slice A2 n2 cB),.cel (vV u) (.slice PA bn pc),.cel (aH Z) (.slice (some ⟨bu,ou,none⟩) un uc),.blk wr.heap.size #[.int .i64 N,.int .i64 (k:Int),.int .i64 (p:Int),.slice none 0 0] 158,.cel (bR (gu u N 0)) (.slice none 0 0)]):=((aR.out.pushBlk _ _).pushNil 100 2)
   obtain ⟨gc,aM⟩:∃g,wr.heap.size=g:=⟨_,rfl⟩
   go_upto_region 17 with fail
   rw [aM] at bG
   (try rw [aM])
   have dd:=Hd aM
   clear aM cu cl
   generalize wr.alloc (.cells #[.int .i64 N,.int .i64 (k:Int),.int .i64 (p:Int),.slice none 0 0] 158)=W6 at *
   go_wp2_with fail
   go_loopw [12] (fun i wr=>∃(j:Nat) (SK:Option Addr) (m c:Nat),j<=bn/\i = .int .i64 (j:Int)/\m<=5 * j/\aJ Y wr [.cel (ah (CT++iO u k Z p)) (.slice A2 n2 cB),.cel (vV u) (.slice PA bn pc),.cel (aH Z) (.slice (some ⟨bu,ou,none⟩) un uc),.blk gc #[.int .i64 N,.int .i64 (k:Int),.int .i64 (p:Int),.slice SK m c] 158,.cel (bR (gu u N j)) (.slice SK m c)]) (fun i _=>bn - (intOf i).toNat)
   ·exact ⟨0,none,0,0,by omega,rfl,by omega,bG.out⟩
   obtain ⟨j,SK,m,mc,hj,rfl,hm,hs⟩:=hrel
   have ak:=Hd hs
   clear hs
   by_cases b7:j<bn
   ·have cy:=dT (by omega:j<bn)
    have aN:j<u.length:=by rw [bZ.out];exact b7
    have h5:=cm.out _ (List.getElem_mem aN)
    rw [show u[j]=u[j]?.getD [] by rw [List.getElem?_eq_getElem aN];rfl] at h5
    have aW:=Hd (sK u N j)
    obtain ⟨qs,a9⟩:∃qs,u[j]?.getD []=qs:=⟨_,rfl⟩
    rw [a9] at aW h5
    obtain ⟨cV,cn⟩:=hd2 a9 aN
    clear aN a9
    generalize gu u N j=SJ at *
    obtain ⟨i4,i5⟩:=ib (by omega:j<bn)
    go_wp2_with fail
    go_loopw [13] (fun i wr=>∃(q:Nat) (SK:Option Addr) (m c:Nat),q<=qs.length/\i = .int .i64 (q:Int)/\m<=5 * j+q/\aJ Y wr [.cel (ah (CT++iO u k Z p)) (.slice A2 n2 cB),.cel (vV u) (.slice PA bn pc),.cel (aH Z) (.slice (some ⟨bu,ou,none⟩) un uc),.blk gc #[.int .i64 N,.int .i64 (k:Int),.int .i64 (p:Int),.slice SK m c] 158,.cel (bR (SJ++nO N j qs q)) (.slice SK m c)]) (fun i _=>qs.length - (intOf i).toNat)
    ·exact ⟨0,_,_,_,by omega,rfl,by omega,by simpa [nO] using ak.out⟩
    obtain ⟨q,SK,m,mc,hq,rfl,hm,hs⟩:=hrel
    have K:=Hd hs
    clear hs
    obtain ⟨bp,op,PT,pm,pp,bJ,bB,cp,rp⟩:=(K.out.rd 1 rfl).rowsR (k:=j) cn.out
    rw [cV.out] at rp
    obtain ⟨cS,cD⟩:=hd2 bJ rp.ints
    have de:qs.length=pm:=rp.ints.1
    clear rp bJ
    obtain rfl:=cS.out
    by_cases bM:q<pm
    ·have ct:=dT (by omega:q<pm)
     obtain ⟨bq,oq,bX,bz,bP⟩:=cD.out.2 (by omega)
     have cL:=Hd bX
     have cq:=bP q bM
     obtain ⟨b2,o2,bv,a0,ay⟩:=(K.out.ints 2 rfl).2 (by omega)
     obtain ⟨rfl,rfl⟩:bu=b2/\ou=o2:=by
      injection bv with h
      injection h with h1 h2
      exact ⟨h1,h2⟩
     have cu:=ay p a1
     rw [cX.out] at cu
     have bH:=Hd (ut N j qs q)
     clear bP bX bv ay
     obtain rfl:=cL.out
     generalize qs[q]?.getD 0=y at *
     generalize nO N j qs q=SQ at *
     obtain ⟨i6,i7⟩:=ib (by omega:q<pm)
     by_cases hy:y=N
     ·have dy:(y==N)=true:=by simp [hy]
      have HC:Hid (SJ++nO N j qs (q+1)=SJ++SQ++[⟨(j:Int),(q:Int)⟩]):=by show _=_;rw [bH.out,if_pos hy,List.append_assoc]
      clear hy
      go_upto_region 23 with fail
      have aw:=aY wr
      have a8:=aP wr
      refine wpB wr ?_
      repeat (go_big_quiet_step (fail))
      refine wpQuiet_nil ?_
      rintro wq ⟨⟨w5,V⟩,hw⟩
      replace hw:wq=w5:=hw
      subst hw
      have ad:=Hd (K.out.below V)
      clear aw a8 V cp bB cq bz cu a0
      have ap:=(ad.out.blk 3 rfl).1
      obtain ⟨-,-,-,z3,lz⟩:=cO ap
      have cs:=Hd ((ad.out.consPin (j:Int) (q:Int)).alloc (.cells #[.int .i64 (j:Int),.int .i64 (q:Int)] 100))
      have dk:m<=1000:=by omega
      clear ap
      go_wp2_with (at_builtin;refine gQ rfl _ _ 156 100 rfl c3 _ 2 16 Tryz.underlying156 aU.out.1 aU.out.2.1 aU.out.2.2.1 aU.out.2.2.2 rfl (by decide) (by decide) _ (cs.out) 5 0 (by decide) m mc _ SK ((SJ++SQ).flatMap bS.cells) _ #[.int .i64 (j:Int),.int .i64 (q:Int)] _ rfl rfl rfl rfl (aI _ _) rfl (by omega) ?_;intro g9 aT w9 S9 aq;have bh:=Hd (S9.tail.blk 3 rfl).1;have l9:=aF (k:=3) bh.out rfl;have f9:=aX bh.out 3;have q9:=aC bh.out;have cU:=Hd (S9.tail.put 3 rfl 3 (.slice (some ⟨g9,0,none⟩) (m+1) aT));clear S9 aq)
      go_roundw
      ·exact ⟨q+1,some ⟨g9,0,none⟩,m+1,aT,by omega,by go_num,by omega,by rw [HC.out];unfold bR;rw [xN];exact cU.out⟩
      simp [intOf];omega
     have dy:(y==N)=false:=by simp [hy]
     have HC:Hid (SJ++nO N j qs (q+1)=SJ++SQ):=by show _=_;rw [bH.out,if_neg hy,List.append_nil]
     clear hy
     go_upto_region 23 with fail
     have aw:=aY wr
     have a8:=aP wr
     refine wpB wr ?_
     repeat (go_big_quiet_step (fail))
     refine wpQuiet_nil ?_
     rintro wq ⟨⟨w5,V⟩,hw⟩
     replace hw:wq=w5:=hw
     subst hw
     have ad:=Hd (K.out.below V)
     clear aw a8 V cp bB cq bz cu a0
     go_wp2_with fail
     go_roundw
     ·exact ⟨q+1,SK,m,mc,by omega,by go_num,by omega,by rw [HC.out];exact ad.out⟩
     simp [intOf];omega
    have b0:q=qs.length:=by omega
    have ct:=dF (by omega:pm<=q)
    rw [b0] at K hm
    clear b0
    go_wp2_with fail
    go_roundw
    ·exact ⟨j+1,SK,m,mc,by omega,by go_num,by omega,by rw [aW.out];exact K.out⟩
    simp [intOf];omega
   have cr:j=bn:=by omega
   have cy:=dF (by omega:bn<=j)
   have aW:Hid (gu u N j=gu u N u.length):=by show _=_;rw [bZ.out,cr]
   rw [aW.out] at ak
   have ap:=(ak.out.blk 3 rfl).1
   obtain ⟨z0,z1,z2,z3,lz⟩:=cO ap
   have cH:(gu u N u.length).length=m:=(ak.out.rd 4 rfl).pinN
   clear ap
   by_cases dj:m=0
   ·have dm:decide ((0:Int)<(m:Int))=false:=decide_eq_false (by omega)
    have c6:decide (0<m)=false:=decide_eq_false (by omega)
    have HC:Hid (iO u k Z (p+1)=iO u k Z p):=by show _=_;rw [bd.out];unfold uq;rw [if_pos (by omega),List.append_nil]
    have ao:=Hd (ak.out.sub (qs:=[_,_,_]) (List.Sublist.cons_cons _ (List.Sublist.cons_cons _ (List.Sublist.cons_cons _ (List.nil_sublist _)))))
    go_wp2_with fail
    go_roundw
    ·exact ⟨p+1,_,_,_,by omega,by go_num,rfl,by omega,by rw [HC.out];exact ao.out⟩
    simp [intOf];omega
   have dm:decide ((0:Int)<(m:Int))=true:=decide_eq_true (by omega)
   have c6:decide (0<m)=true:=decide_eq_true (by omega)
   have HC:Hid (CT++iO u k Z (p+1)=CT++iO u k Z p++[⟨N,⟨(k:Int),(p:Int)⟩,gu u N u.length⟩]):=by show _=_;rw [bd.out];unfold uq;rw [if_neg (by omega),List.append_assoc]
   have ao:=Hd ((ak.out.connCels 4 N (k:Int) (p:Int) rfl).alloc (.cells #[.int .i64 N,.int .i64 (k:Int),.int .i64 (p:Int),.slice SK m mc] 158))
   have dp:n2<=1000:=by omega
   clear cH
   go_wp2_with (at_builtin;refine gQ rfl _ _ 43 158 rfl cM _ 4 48 Tryz.underlying43 aQ.out.1 aQ.out.2.1 aQ.out.2.2.1 aQ.out.2.2.2 rfl (by decide) (by decide) _ (ao.out) 0 4 (by decide) n2 cB _ A2 ((CT++iO u k Z p).flatMap Cn.cells) _ #[.int .i64 N,.int .i64 (k:Int),.int .i64 (p:Int),.slice SK m mc] _ rfl rfl rfl rfl (aI _ _) rfl (by omega) ?_;intro g9 aT w9 S9 aq;have cE:=Hd (S9.sub (qs:=[_,_,_]) (List.Sublist.cons_cons _ (List.Sublist.cons_cons _ (List.Sublist.cons_cons _ (List.nil_sublist _)))));clear S9 aq)
   go_roundw
   ·exact ⟨p+1,_,_,_,by omega,by go_num,rfl,by omega,by rw [HC.out];unfold ah;rw [AC];exact cE.out⟩
   simp [intOf];omega
  have cG:p=un:=by omega
  have cC:=dF (by omega:un<=p)
  rw [cG] at aR cI
  have ao:=Hd (aR.out.sub (qs:=[_,_]) (List.Sublist.cons_cons _ (List.Sublist.cons_cons _ (List.nil_sublist _))))
  go_wp2_with fail
  go_roundw
  ·exact ⟨k+1,_,_,_,by omega,by go_num,rfl,by omega,by rw [J.out];exact ao.out⟩
  simp [intOf];omega
 have aG:k=bn:=by omega
 have bf:=dF (by omega:bn<=k)
 have J:Hid (kw l bs k=eY l bs):=by show _=_;rw [aG];unfold eY;rw [af.out]
 rw [J.out] at W
 go_wp2_with fail
 go_ret
 exact ⟨_,_,_,rfl,(W.out.tree 0 rfl).widen z.out.size (Nat.le_refl _),aA z.out W.out.bel⟩
theorem kr (xs bs:List Cn) (CA DA:Option Addr) (cn cc dn dc:Nat) (w:World) (hC:RdC w w.heap.size (ah xs) (.slice CA cn cc)) (D:RdC w w.heap.size (ah bs) (.slice DA dn dc)) (hn:cn<=1048576) (B:∀c∈xs,c.sinks.length<=1048576) :
  Calls Tryz.prog 36 #[.slice CA cn cc,.slice DA dn dc] w fun e w'=>e = .returned (.bool (tb (xs=bs)))/\Below w.heap.size w w':=by
 have ak:=hC.cnN
 have ao:=D.cnN
 obtain ⟨ay,aS,HC,bm,be⟩:=hd5 ak ao hC D B
 clear hC D B
 by_cases aF:cn=dn
 ·subst aF
  have a9:((cn:Int) != (cn:Int))=false:=by simp
  clear ak ao
  go_enter Tryz.func36,Tryz.ntmps36
  go_wp2_with fail
  go_loopw [5] (fun i wr=>∃k:Nat,k<=cn/\i = .int .i64 (k:Int)/\Below w.heap.size w wr/\∀j,j<k→xs[j]?.getD Cn.zero=bs[j]?.getD Cn.zero) (fun i _=>cn - (intOf i).toNat)
  ·exact ⟨0,by omega,rfl,Below.refl _ _,fun j hj=>by omega⟩
  obtain ⟨k,hk,rfl,Y,J⟩:=hrel
  obtain ⟨g,ad⟩:=hd2 Y J
  clear Y J
  by_cases aZ:k<cn
  ·have br:=dT (by omega:k<cn)
   have am:k<xs.length:=by rw [ay.out];exact aZ
   have aR:k<bs.length:=by rw [aS.out];exact aZ
   obtain ⟨bc,oc,SA,m,mc,aU,G,c0,c1,c2,c3,rs⟩:=HC.out.cn (k:=k) am
   obtain ⟨bd,od,TA,m',bl,a1,B,W,V,d2,d3,rt⟩:=bm.out.cn (k:=k) aR
   obtain ⟨bj,bo⟩:=hd2 aU a1
   have Z:=aK g.out G
   have af:=aK g.out B
   rw [←g.out.cell (p:=⟨bc,oc+k * 4,none⟩) G] at c0
   rw [←g.out.cell (p:=⟨bd,od+k * 4,none⟩) B] at W
   rw [←g.out.cell (p:=⟨bc,oc+k * 4+1,none⟩) G] at c1
   rw [←g.out.cell (p:=⟨bd,od+k * 4+1,none⟩) B] at V
   rw [←g.out.cell (p:=⟨bc,oc+k * 4+2,none⟩) G] at c2
   rw [←g.out.cell (p:=⟨bd,od+k * 4+2,none⟩) B] at d2
   rw [←g.out.cell (p:=⟨bc,oc+k * 4+3,none⟩) G] at c3
   rw [←g.out.cell (p:=⟨bd,od+k * 4+3,none⟩) B] at d3
   have hg:xs[k]?.getD Cn.zero=bs[k]?.getD Cn.zero→∀j,j<k+1→xs[j]?.getD Cn.zero=bs[j]?.getD Cn.zero:=fun h=>bW ad.out h
   have aV:xs=bs→xs[k]?.getD Cn.zero=bs[k]?.getD Cn.zero:=fun h=>by rw [h]
   have R:=be.out _ (List.getElem_mem am)
   rw [show xs[k]=xs[k]?.getD Cn.zero by rw [List.getElem?_eq_getElem am];rfl] at R
   obtain ⟨HG,Q⟩:=hd2 hg aV
   clear am aR hg aV aU a1
   obtain rfl:=bj.out
   obtain rfl:=bo.out
   generalize xs[k]?.getD Cn.zero=a at *
   generalize bs[k]?.getD Cn.zero=b at *
   obtain ⟨N,⟨p,q⟩,ss⟩:=a
   obtain ⟨N',⟨p',q'⟩,ts⟩:=b
   simp only at c0 c1 c2 c3 W V d2 d3 R
   have aM:=Hd (show RdC w w.heap.size (bR ss) (.slice SA m mc) from rs)
   have aW:=Hd (show RdC w w.heap.size (bR ts) (.slice TA m' bl) from rt)
   have ag:Hid (ss.length=m):=aM.out.pinN
   have av:Hid (ts.length=m'):=aW.out.pinN
   have hm:m<=1048576:=by rw [←ag.out];exact R
   obtain ⟨i0,i1⟩:=ib (by omega:k<cn)
   clear rs rt R
   by_cases hN:N=N'
   ·subst hN
    have dN:(N != N)=false:=by simp
    by_cases au:p=p'/\q=q'
    ·obtain ⟨rfl,rfl⟩:=au
     by_cases aD:m=m'
     ·subst aD
      have dm:((m:Int) != (m:Int))=false:=by simp
      have a8:Hid (ss=ts→∀j,j<k+1→xs[j]?.getD Cn.zero=bs[j]?.getD Cn.zero):=fun h=>HG.out (by rw [h])
      clear HG
      go_upto_region 6 with fail
      have u:=aY wr
      have z:=aP wr
      refine wpB wr ?_
      repeat (go_big_quiet_step ((fail)))
      refine wpQuiet_nil ?_
      rintro _ ⟨⟨w5,D⟩,rfl⟩
      clear u z
      have H:=Hd (aA g.out D)
      clear D
      have bw:=Hd H.out
      have C3:=Hd ((g.out.cell (p:=⟨bc,oc+k * 4+3,none⟩) G).symm.trans c3)
      have D3:=Hd ((g.out.cell (p:=⟨bd,od+k * 4+3,none⟩) B).symm.trans d3)
      have ae:=(H.out.cell (p:=⟨bc,oc+k * 4+3,none⟩) G).trans (((g.out.cell (p:=⟨bc,oc+k * 4+3,none⟩) G)).symm.trans c3)
      have ai:=(H.out.cell (p:=⟨bd,od+k * 4+3,none⟩) B).trans (((g.out.cell (p:=⟨bd,od+k * 4+3,none⟩) B)).symm.trans d3)
      have I:=aK H.out G
      have K:=aK H.out B
      clear c0 c1 c2 c3 W V d2 d3 Z af
      go_wp2_with fail
      clear ae ai I K
      go_loopw [6] (fun i wr=>∃j:Nat,j<=m/\i = .int .i64 (j:Int)/\Below w.heap.size w wr/\∀q,q<j→ss[q]?.getD bS.zero=ts[q]?.getD bS.zero) (fun i _=>m - (intOf i).toNat)
      ·exact ⟨0,by omega,rfl,H.out,fun q hq=>by omega⟩
      obtain ⟨j,hj,rfl,Y,J⟩:=hrel
      obtain ⟨g,aG⟩:=hd2 Y J
      clear Y J
      have ae:=(g.out.cell (p:=⟨bc,oc+k * 4+3,none⟩) G).trans C3.out
      have ai:=(g.out.cell (p:=⟨bd,od+k * 4+3,none⟩) B).trans D3.out
      have I:=aK g.out G
      have K:=aK g.out B
      have bL:(0:Int)<=(j:Int):=by omega
      by_cases aq:j<m
      ·have bh:=dT (by omega:j<m)
       have aQ:j<ss.length:=by rw [ag.out];exact aq
       have aN:j<ts.length:=by rw [av.out];exact aq
       obtain ⟨bp,op,a0,aE,W,V⟩:=aM.out.pin (k:=j) aQ
       obtain ⟨bq,oq,aX,aH,e0,e1⟩:=aW.out.pin (k:=j) aN
       obtain ⟨bf,bb⟩:=hd2 a0 aX
       have aC:=aK g.out aE
       have ax:=aK g.out aH
       rw [←g.out.cell (p:=⟨bp,op+j * 2,none⟩) aE] at W
       rw [←g.out.cell (p:=⟨bp,op+j * 2+1,none⟩) aE] at V
       rw [←g.out.cell (p:=⟨bq,oq+j * 2,none⟩) aH] at e0
       rw [←g.out.cell (p:=⟨bq,oq+j * 2+1,none⟩) aH] at e1
       have HG:Hid (ss[j]?.getD bS.zero=ts[j]?.getD bS.zero→∀q,q<j+1→ss[q]?.getD bS.zero=ts[q]?.getD bS.zero):=fun h=>bW aG.out h
       have HN:Hid (ss[j]?.getD bS.zero≠ts[j]?.getD bS.zero→xs≠bs):=fun h h'=>h (by
        have h2:=Q.out h'
        injection h2 with _ _ h3
        rw [h3])
       clear aQ aN a0 aX
       obtain rfl:=bf.out
       obtain rfl:=bb.out
       generalize ss[j]?.getD bS.zero=s at *
       generalize ts[j]?.getD bS.zero=t at *
       obtain ⟨x,y⟩:=s
       obtain ⟨x',y'⟩:=t
       simp only at W V e0 e1
       obtain ⟨i2,i3⟩:=ib (by omega:j<m)
       by_cases aB:x=x'/\y=y'
       ·obtain ⟨rfl,rfl⟩:=aB
        have aI:=Hd (HG.out rfl)
        clear HG HN
        go_upto_region 11 with fail
        have u:=aY wr
        have z:=aP wr
        refine wpB wr ?_
        repeat (go_big_quiet_step ((fail)))
        refine wpQuiet_nil ?_
        rintro _ ⟨⟨w5,D⟩,rfl⟩
        clear u z
        have H:=Hd (aA g.out D)
        clear D W V e0 e1 aC ax ae ai I K
        go_wp2_with fail
        go_roundw
        ·exact ⟨j+1,by omega,by go_num,H.out,aI.out⟩
        simp [intOf];omega
       have U:Hid (¬xs=bs):=HN.out fun h=>aB (by injection h with h1 h2;exact ⟨h1,h2⟩)
       clear HG HN
       by_cases hx:x=x'
       ·subst hx
        have dy:(y==y')=false:=by
         cases Y:y==y' with
         | false=>rfl
         | true=>exact absurd ⟨rfl,by simpa using Y⟩ aB
        go_upto_region 11 with fail
        have u:=aY wr
        have z:=aP wr
        refine wpB wr ?_
        repeat (go_big_quiet_step ((fail)))
        refine wpQuiet_nil ?_
        rintro _ ⟨⟨w5,D⟩,rfl⟩
        clear u z
        have H:=Hd (aA g.out D)
        clear D W V e0 e1 aC ax ae ai I K
        go_wp2_with fail
        go_ret
        exact ⟨aO U.out,H.out⟩
       have dx:(x==x')=false:=by
        cases Y:x==x' with
        | false=>rfl
        | true=>exact absurd (by simpa using Y) hx
       go_upto_region 11 with fail
       have u:=aY wr
       have z:=aP wr
       refine wpB wr ?_
       repeat (go_big_quiet_step ((fail)))
       refine wpQuiet_nil ?_
       rintro _ ⟨⟨w5,D⟩,rfl⟩
       clear u z
       have H:=Hd (aA g.out D)
       clear D W V e0 e1 aC ax ae ai I K
       go_wp2_with fail
       go_ret
       exact ⟨aO U.out,H.out⟩
      have aT:j=m:=by omega
      have bh:=dF (by omega:m<=j)
      have aI:=Hd (a8.out (by
       apply List.ext_getElem
       ·rw [ag.out,av.out]
       intro q h1 h2
       have h:=aG.out q (by rw [aT,←ag.out];exact h1)
       rwa [List.getElem?_eq_getElem h1,List.getElem?_eq_getElem h2] at h))
      clear aG aT
      go_wp2_with fail
      go_roundw
      ·exact ⟨k+1,by omega,by go_num,g.out,aI.out⟩
      simp [intOf];omega
     have U:Hid (¬xs=bs):=fun h=>aD (by
      have h2:=Q.out h
      injection h2 with _ _ h3
      rw [←ag.out,←av.out,h3])
     have dm:((m:Int) != (m':Int))=true:=by simp;omega
     clear HG Q aD
     go_upto_region 6 with fail
     have u:=aY wr
     have z:=aP wr
     refine wpB wr ?_
     repeat (go_big_quiet_step ((fail)))
     refine wpQuiet_nil ?_
     rintro _ ⟨⟨w5,D⟩,rfl⟩
     clear u z
     have H:=Hd (aA g.out D)
     clear D c0 c1 c2 c3 W V d2 d3 Z af
     go_wp2_with fail
     go_ret
     exact ⟨aO U.out,H.out⟩
    have U:Hid (¬xs=bs):=fun h=>au (by
     have h2:=Q.out h
     injection h2 with _ h3 _
     injection h3 with h4 h5
     exact ⟨h4,h5⟩)
    clear HG Q
    by_cases hp:p=p'
    ·subst hp
     have dq:(q==q')=false:=by
      cases Y:q==q' with
      | false=>rfl
      | true=>exact absurd ⟨rfl,by simpa using Y⟩ au
     go_upto_region 6 with fail
     have u:=aY wr
     have z:=aP wr
     refine wpB wr ?_
     repeat (go_big_quiet_step ((fail)))
     refine wpQuiet_nil ?_
     rintro _ ⟨⟨w5,D⟩,rfl⟩
     clear u z
     have H:=Hd (aA g.out D)
     clear D c0 c1 c2 c3 W V d2 d3 Z af
     go_wp2_with fail
     go_ret
     exact ⟨aO U.out,H.out⟩
    have dp:(p==p')=false:=by
     cases Y:p==p' with
     | false=>rfl
     | true=>exact absurd (by simpa using Y) hp
    go_upto_region 6 with fail
    have u:=aY wr
    have z:=aP wr
    refine wpB wr ?_
    repeat (go_big_quiet_step ((fail)))
    refine wpQuiet_nil ?_
    rintro _ ⟨⟨w5,D⟩,rfl⟩
    clear u z
    have H:=Hd (aA g.out D)
    clear D c0 c1 c2 c3 W V d2 d3 Z af
    go_wp2_with fail
    go_ret
    exact ⟨aO U.out,H.out⟩
   have U:Hid (¬xs=bs):=fun h=>hN (by
    have h2:=Q.out h
    injection h2 with h3 _ _)
   have dN:(N != N')=true:=by simp [hN]
   clear HG Q hN
   go_upto_region 6 with fail
   have u:=aY wr
   have z:=aP wr
   refine wpB wr ?_
   repeat (go_big_quiet_step ((fail)))
   refine wpQuiet_nil ?_
   rintro _ ⟨⟨w5,D⟩,rfl⟩
   clear u z
   have H:=Hd (aA g.out D)
   clear D c0 c1 c2 c3 W V d2 d3 Z af
   go_wp2_with fail
   go_ret
   exact ⟨aO U.out,H.out⟩
  have aJ:k=cn:=by omega
  have br:=dF (by omega:cn<=k)
  have U:Hid (xs=bs):=by
   show xs=bs
   apply List.ext_getElem
   ·rw [ay.out,aS.out]
   intro q h1 h2
   have h:=ad.out q (by rw [aJ,←ay.out];exact h1)
   rwa [List.getElem?_eq_getElem h1,List.getElem?_eq_getElem h2] at h
  clear ad aJ
  go_wp2_with fail
  go_ret
  exact ⟨dU U.out,g.out⟩
 have U:Hid (¬xs=bs):=fun h=>aF (by rw [←ak,←ao,h])
 have a9:((cn:Int) != (dn:Int))=true:=by simp;omega
 clear ak ao aF
 go_enter Tryz.func36,Tryz.ntmps36
 go_wp2_with fail
 go_ret
 exact ⟨aO U.out,Below.refl _ _⟩
theorem vv (d:Dev) (x:Lay) (SA LA OA BA CA PA RA:Option Addr) (sn sc ln lc on oc bn bc cn cc pn pc rn rc:Nat) (w:World) (hN:fU w x.net SA LA OA sn sc ln lc on oc) (hB:RdC w w.heap.size (aa x.blocks) (.slice BA bn bc)) (hC:RdC w w.heap.size (ah x.conns) (.slice CA cn cc)) (hP:RdC w w.heap.size (aH x.place) (.slice PA pn pc)) (hR:RdC w w.heap.size (bH x.routes) (.slice RA rn rc))
  (aV:bn<=1048576) (aL:cn<=1048576) (aU:pn<=pc) (aP:pc<=1048576) (aZ:∀b∈x.blocks,b.les.length<=1048576) (a6:∀c∈x.conns,c.sinks.length<=1048576) (a7:∀r∈x.routes,r.nodes.length<=1048576/\r.from_.length<=1048576) :
  Calls Tryz.prog 8 #[.agg (dv d),vR x SA LA OA BA CA PA RA sn sc ln lc on oc bn bc cn cc pn pc rn rc] w fun e w'=>e = .returned (.bool (tb (jB d x)))/\Below w.heap.size w w':=by
 obtain ⟨HN,HB,HC,HP,a4,ax,aq,a0⟩:=hd8 hN hB hC hP hR aZ a6 a7
 clear hN hB hC hP hR aZ a6 a7
 have u:=Hd (aB (aB (Below.refl w.heap.size w) (.cells (dv d) 36)) (.cells #[.int .i64 x.net.inputs,.slice SA sn sc,.slice LA ln lc,.slice OA on oc,.slice BA bn bc,.slice CA cn cc,.slice PA pn pc,.slice RA rn rc] 46))
 have hx:=aW (.cells #[.int .i64 x.net.inputs,.slice SA sn sc,.slice LA ln lc,.slice OA on oc,.slice BA bn bc,.slice CA cn cc,.slice PA pn pc,.slice RA rn rc] 46) (aI w (.cells (dv d) 36))
 have hy:=aI (w.alloc (.cells (dv d) 36)) (.cells #[.int .i64 x.net.inputs,.slice SA sn sc,.slice LA ln lc,.slice OA on oc,.slice BA bn bc,.slice CA cn cc,.slice PA pn pc,.slice RA rn rc] 46)
 simp only [World.size_alloc] at hy
 obtain ⟨ay,av⟩:=hd2 hx hy
 clear hx hy
 by_cases aK:fq x.net x.blocks
 ·have I:=Hd aK
  clear aK
  by_cases aJ:x.conns=eY x.net x.blocks
  ·have Q:=Hd aJ
   clear aJ
   by_cases aj:eG d (x.blocks.map Blk.kind) x.place
   ·have ap:=Hd aj
    clear aj
    by_cases aE:fA d x.place x.conns x.routes
    ·have az:=Hd aE
     have HR:Hid (jB d x):=⟨I.out,Q.out,ap.out,az.out⟩
     clear aE
     go_enter Tryz.func8,Tryz.ntmps8
     go_upto_region 1 with fail
     generalize (w.alloc (.cells (dv d) 36)).alloc (.cells #[.int .i64 x.net.inputs,.slice SA sn sc,.slice LA ln lc,.slice OA on oc,.slice BA bn bc,.slice CA cn cc,.slice PA pn pc,.slice RA rn rc] 46)=z at *
     obtain ⟨x0,x1,V,x3,H⟩:=cO ay.out
     obtain ⟨y0,y1,W,y3,y4,y5,Z,Y,D⟩:=mK av.out
     have j:Hid (∀w',Below z.heap.size z w'→(KD w' w.heap.size d (K8e w' (w.heap.size+1) (.int .i64 x.net.inputs) (.slice SA sn sc) (.slice LA ln lc) (.slice OA on oc) (.slice BA bn bc) (.slice CA cn cc) (.slice PA pn pc) (.slice RA rn rc)))):=fun v g=>⟨(g.cell (p:=⟨w.heap.size,0,none⟩) H).trans x0,(g.cell (p:=⟨w.heap.size,1,none⟩) H).trans x1,(g.cell (p:=⟨w.heap.size,2,none⟩) H).trans V,(g.cell (p:=⟨w.heap.size,3,none⟩) H).trans x3,(g.cell (p:=⟨w.heap.size+1,0,none⟩) D).trans y0,(g.cell (p:=⟨w.heap.size+1,1,none⟩) D).trans y1,(g.cell (p:=⟨w.heap.size+1,2,none⟩) D).trans W,(g.cell (p:=⟨w.heap.size+1,3,none⟩) D).trans y3,(g.cell (p:=⟨w.heap.size+1,4,none⟩) D).trans y4,(g.cell (p:=⟨w.heap.size+1,5,none⟩) D).trans y5,(g.cell (p:=⟨w.heap.size+1,6,none⟩) D).trans Z,(g.cell (p:=⟨w.heap.size+1,7,none⟩) D).trans Y⟩
     have q:=(Below.refl z.heap.size z).drew
     have J:=Hd (fun (v:World) (g:Below z.heap.size z v)=>(by have h:=kS x.net SA LA OA sn sc ln lc on oc x.blocks BA bn bc v (HN.out.below (aA u.out g)) (HB.out.below (aA u.out g)) ax.out;rwa [ae I.out] at h:Calls Tryz.prog 35 #[jE x.net SA LA OA sn sc ln lc on oc,.slice BA bn bc] v fun e w'=>e = .returned (.bool true)/\Below v.heap.size v w'))
     have U:=Hd (fun (v:World) (g:Below z.heap.size z v)=>mU x.net SA LA OA sn sc ln lc on oc x.blocks BA bn bc v (HN.out.below (aA u.out g)) (HB.out.below (aA u.out g)) I.out)
     have R:=Hd (fun (v:World) (g:Below z.heap.size z v) (A:Option Addr) (n c:Nat) (h:RdC v v.heap.size (ah (eY x.net x.blocks)) (.slice A n c))=>(by have h:=kr x.conns (eY x.net x.blocks) CA A cn cc n c v (HC.out.below (aA u.out g)) h aL aq.out;rwa [ae Q.out] at h:Calls Tryz.prog 36 #[.slice CA cn cc,.slice A n c] v fun e w'=>e = .returned (.bool true)/\Below v.heap.size v w'))
     have aw:=Hd (fun (v:World) (g:Below z.heap.size z v)=>qI x.blocks BA bn bc v (HB.out.below (aA u.out g)) aV)
     have aC:=Hd (fun (v:World) (g:Below z.heap.size z v) (A:Option Addr) (c:Nat) (h:dP v A bn (x.blocks.map Blk.kind))=>(by have h:=qJ d (x.blocks.map Blk.kind) x.place A PA bn c pn pc v h (HP.out.ints.below (aA u.out g)) aU aP;rwa [ae ap.out] at h:Calls Tryz.prog 38 #[.agg (dv d),.slice A bn c,.slice PA pn pc] v fun e w'=>e = .returned (.bool true)/\Below v.heap.size v w'))
     have aX:=Hd (fun (v:World) (g:Below z.heap.size z v)=>(by have h:=qw d x.place x.conns x.routes PA CA RA pn pc cn cc rn rc v (HP.out.ints.below (aA u.out g)) (HC.out.below (aA u.out g)) (a4.out.below (aA u.out g)) (by omega) aq.out a0.out;rwa [ae az.out] at h:Calls Tryz.prog 40 #[.agg (dv d),.slice PA pn pc,.slice CA cn cc,.slice RA rn rc] v fun e w'=>e = .returned (.bool true)/\Below v.heap.size v w'))
     go_region_held3 (fun w'=>KD w' w.heap.size d (K8e w' (w.heap.size+1) (.int .i64 x.net.inputs) (.slice SA sn sc) (.slice LA ln lc) (.slice OA on oc) (.slice BA bn bc) (.slice CA cn cc) (.slice PA pn pc) (.slice RA rn rc)))
      (first|exact j.out _ q)
      ((first
      | (go_at_call 35;(with_reducible refine (J.out _ q).mono ?_);rintro _ w5 ⟨rfl,B⟩;replace q:=aA q B;clear B)
      | (go_at_call 37;(with_reducible refine (U.out _ q).mono ?_);rintro e5 w5 ⟨A5,n5,c5,rfl,o5,B⟩;have O5:=Hd o5.rd;clear o5;replace q:=aA q B;clear B)
      | (go_at_call 36;(with_reducible refine (R.out _ q A5 n5 c5 O5.out).mono ?_);rintro _ w6 ⟨rfl,B⟩;replace q:=aA q B;clear B)
      | (go_at_call 39;(with_reducible refine (aw.out _ q).mono ?_);rintro e7 w7 ⟨A7,c7,rfl,o7,B⟩;have O7:=Hd o7.ints;clear o7;replace q:=aA q B;clear B)
      | (go_at_call 38;(with_reducible refine (aC.out _ q A7 c7 O7.out).mono ?_);rintro _ w8 ⟨rfl,B⟩;replace q:=aA q B;clear B)
      | (go_at_call 40;(with_reducible refine (aX.out _ q).mono ?_);rintro _ w4 ⟨rfl,B⟩;replace q:=aA q B;clear B)))
     have HD:=Hd (aA u.out q)
     clear q x0 x1 V x3 H y0 y1 W y3 y4 y5 Z Y D j
     go_wp2_with fail
     go_ret
     exact ⟨dU HR.out,HD.out⟩
    have az:=Hd aE
    have HR:Hid (¬jB d x):=fun h=>az.out h.routes
    clear aE
    go_enter Tryz.func8,Tryz.ntmps8
    go_upto_region 1 with fail
    generalize (w.alloc (.cells (dv d) 36)).alloc (.cells #[.int .i64 x.net.inputs,.slice SA sn sc,.slice LA ln lc,.slice OA on oc,.slice BA bn bc,.slice CA cn cc,.slice PA pn pc,.slice RA rn rc] 46)=z at *
    obtain ⟨x0,x1,V,x3,H⟩:=cO ay.out
    obtain ⟨y0,y1,W,y3,y4,y5,Z,Y,D⟩:=mK av.out
    have j:Hid (∀w',Below z.heap.size z w'→(KD w' w.heap.size d (K8e w' (w.heap.size+1) (.int .i64 x.net.inputs) (.slice SA sn sc) (.slice LA ln lc) (.slice OA on oc) (.slice BA bn bc) (.slice CA cn cc) (.slice PA pn pc) (.slice RA rn rc)))):=fun v g=>⟨(g.cell (p:=⟨w.heap.size,0,none⟩) H).trans x0,(g.cell (p:=⟨w.heap.size,1,none⟩) H).trans x1,(g.cell (p:=⟨w.heap.size,2,none⟩) H).trans V,(g.cell (p:=⟨w.heap.size,3,none⟩) H).trans x3,(g.cell (p:=⟨w.heap.size+1,0,none⟩) D).trans y0,(g.cell (p:=⟨w.heap.size+1,1,none⟩) D).trans y1,(g.cell (p:=⟨w.heap.size+1,2,none⟩) D).trans W,(g.cell (p:=⟨w.heap.size+1,3,none⟩) D).trans y3,(g.cell (p:=⟨w.heap.size+1,4,none⟩) D).trans y4,(g.cell (p:=⟨w.heap.size+1,5,none⟩) D).trans y5,(g.cell (p:=⟨w.heap.size+1,6,none⟩) D).trans Z,(g.cell (p:=⟨w.heap.size+1,7,none⟩) D).trans Y⟩
    have q:=(Below.refl z.heap.size z).drew
    have J:=Hd (fun (v:World) (g:Below z.heap.size z v)=>(by have h:=kS x.net SA LA OA sn sc ln lc on oc x.blocks BA bn bc v (HN.out.below (aA u.out g)) (HB.out.below (aA u.out g)) ax.out;rwa [ae I.out] at h:Calls Tryz.prog 35 #[jE x.net SA LA OA sn sc ln lc on oc,.slice BA bn bc] v fun e w'=>e = .returned (.bool true)/\Below v.heap.size v w'))
    have U:=Hd (fun (v:World) (g:Below z.heap.size z v)=>mU x.net SA LA OA sn sc ln lc on oc x.blocks BA bn bc v (HN.out.below (aA u.out g)) (HB.out.below (aA u.out g)) I.out)
    have R:=Hd (fun (v:World) (g:Below z.heap.size z v) (A:Option Addr) (n c:Nat) (h:RdC v v.heap.size (ah (eY x.net x.blocks)) (.slice A n c))=>(by have h:=kr x.conns (eY x.net x.blocks) CA A cn cc n c v (HC.out.below (aA u.out g)) h aL aq.out;rwa [ae Q.out] at h:Calls Tryz.prog 36 #[.slice CA cn cc,.slice A n c] v fun e w'=>e = .returned (.bool true)/\Below v.heap.size v w'))
    have aw:=Hd (fun (v:World) (g:Below z.heap.size z v)=>qI x.blocks BA bn bc v (HB.out.below (aA u.out g)) aV)
    have aC:=Hd (fun (v:World) (g:Below z.heap.size z v) (A:Option Addr) (c:Nat) (h:dP v A bn (x.blocks.map Blk.kind))=>(by have h:=qJ d (x.blocks.map Blk.kind) x.place A PA bn c pn pc v h (HP.out.ints.below (aA u.out g)) aU aP;rwa [ae ap.out] at h:Calls Tryz.prog 38 #[.agg (dv d),.slice A bn c,.slice PA pn pc] v fun e w'=>e = .returned (.bool true)/\Below v.heap.size v w'))
    have aX:=Hd (fun (v:World) (g:Below z.heap.size z v)=>(by have h:=qw d x.place x.conns x.routes PA CA RA pn pc cn cc rn rc v (HP.out.ints.below (aA u.out g)) (HC.out.below (aA u.out g)) (a4.out.below (aA u.out g)) (by omega) aq.out a0.out;rwa [bJ az.out] at h:Calls Tryz.prog 40 #[.agg (dv d),.slice PA pn pc,.slice CA cn cc,.slice RA rn rc] v fun e w'=>e = .returned (.bool false)/\Below v.heap.size v w'))
    go_region_held3 (fun w'=>KD w' w.heap.size d (K8e w' (w.heap.size+1) (.int .i64 x.net.inputs) (.slice SA sn sc) (.slice LA ln lc) (.slice OA on oc) (.slice BA bn bc) (.slice CA cn cc) (.slice PA pn pc) (.slice RA rn rc)))
     (first|exact j.out _ q)
     ((first
     | (go_at_call 35;(with_reducible refine (J.out _ q).mono ?_);rintro _ w5 ⟨rfl,B⟩;replace q:=aA q B;clear B)
     | (go_at_call 37;(with_reducible refine (U.out _ q).mono ?_);rintro e5 w5 ⟨A5,n5,c5,rfl,o5,B⟩;have O5:=Hd o5.rd;clear o5;replace q:=aA q B;clear B)
     | (go_at_call 36;(with_reducible refine (R.out _ q A5 n5 c5 O5.out).mono ?_);rintro _ w6 ⟨rfl,B⟩;replace q:=aA q B;clear B)
     | (go_at_call 39;(with_reducible refine (aw.out _ q).mono ?_);rintro e7 w7 ⟨A7,c7,rfl,o7,B⟩;have O7:=Hd o7.ints;clear o7;replace q:=aA q B;clear B)
     | (go_at_call 38;(with_reducible refine (aC.out _ q A7 c7 O7.out).mono ?_);rintro _ w8 ⟨rfl,B⟩;replace q:=aA q B;clear B)
     | (go_at_call 40;(with_reducible refine (aX.out _ q).mono ?_);rintro _ w4 ⟨rfl,B⟩;replace q:=aA q B;clear B)))
    have HD:=Hd (aA u.out q)
    clear q x0 x1 V x3 H y0 y1 W y3 y4 y5 Z Y D j
    go_wp2_with fail
    go_ret
    exact ⟨aO HR.out,HD.out⟩
   have ap:=Hd aj
   have HR:Hid (¬jB d x):=fun h=>ap.out h.place
   clear aj
   go_enter Tryz.func8,Tryz.ntmps8
   go_upto_region 1 with fail
   generalize (w.alloc (.cells (dv d) 36)).alloc (.cells #[.int .i64 x.net.inputs,.slice SA sn sc,.slice LA ln lc,.slice OA on oc,.slice BA bn bc,.slice CA cn cc,.slice PA pn pc,.slice RA rn rc] 46)=z at *
   obtain ⟨x0,x1,V,x3,H⟩:=cO ay.out
   obtain ⟨y0,y1,W,y3,y4,y5,Z,Y,D⟩:=mK av.out
   have j:Hid (∀w',Below z.heap.size z w'→(KD w' w.heap.size d (K8e w' (w.heap.size+1) (.int .i64 x.net.inputs) (.slice SA sn sc) (.slice LA ln lc) (.slice OA on oc) (.slice BA bn bc) (.slice CA cn cc) (.slice PA pn pc) (.slice RA rn rc)))):=fun v g=>⟨(g.cell (p:=⟨w.heap.size,0,none⟩) H).trans x0,(g.cell (p:=⟨w.heap.size,1,none⟩) H).trans x1,(g.cell (p:=⟨w.heap.size,2,none⟩) H).trans V,(g.cell (p:=⟨w.heap.size,3,none⟩) H).trans x3,(g.cell (p:=⟨w.heap.size+1,0,none⟩) D).trans y0,(g.cell (p:=⟨w.heap.size+1,1,none⟩) D).trans y1,(g.cell (p:=⟨w.heap.size+1,2,none⟩) D).trans W,(g.cell (p:=⟨w.heap.size+1,3,none⟩) D).trans y3,(g.cell (p:=⟨w.heap.size+1,4,none⟩) D).trans y4,(g.cell (p:=⟨w.heap.size+1,5,none⟩) D).trans y5,(g.cell (p:=⟨w.heap.size+1,6,none⟩) D).trans Z,(g.cell (p:=⟨w.heap.size+1,7,none⟩) D).trans Y⟩
   have q:=(Below.refl z.heap.size z).drew
   have J:=Hd (fun (v:World) (g:Below z.heap.size z v)=>(by have h:=kS x.net SA LA OA sn sc ln lc on oc x.blocks BA bn bc v (HN.out.below (aA u.out g)) (HB.out.below (aA u.out g)) ax.out;rwa [ae I.out] at h:Calls Tryz.prog 35 #[jE x.net SA LA OA sn sc ln lc on oc,.slice BA bn bc] v fun e w'=>e = .returned (.bool true)/\Below v.heap.size v w'))
   have U:=Hd (fun (v:World) (g:Below z.heap.size z v)=>mU x.net SA LA OA sn sc ln lc on oc x.blocks BA bn bc v (HN.out.below (aA u.out g)) (HB.out.below (aA u.out g)) I.out)
   have R:=Hd (fun (v:World) (g:Below z.heap.size z v) (A:Option Addr) (n c:Nat) (h:RdC v v.heap.size (ah (eY x.net x.blocks)) (.slice A n c))=>(by have h:=kr x.conns (eY x.net x.blocks) CA A cn cc n c v (HC.out.below (aA u.out g)) h aL aq.out;rwa [ae Q.out] at h:Calls Tryz.prog 36 #[.slice CA cn cc,.slice A n c] v fun e w'=>e = .returned (.bool true)/\Below v.heap.size v w'))
   have aw:=Hd (fun (v:World) (g:Below z.heap.size z v)=>qI x.blocks BA bn bc v (HB.out.below (aA u.out g)) aV)
   have aC:=Hd (fun (v:World) (g:Below z.heap.size z v) (A:Option Addr) (c:Nat) (h:dP v A bn (x.blocks.map Blk.kind))=>(by have h:=qJ d (x.blocks.map Blk.kind) x.place A PA bn c pn pc v h (HP.out.ints.below (aA u.out g)) aU aP;rwa [bJ ap.out] at h:Calls Tryz.prog 38 #[.agg (dv d),.slice A bn c,.slice PA pn pc] v fun e w'=>e = .returned (.bool false)/\Below v.heap.size v w'))
   refine wp_region_held_drew (S:=(fun w'=>KD w' w.heap.size d (K8e w' (w.heap.size+1) (.int .i64 x.net.inputs) (.slice SA sn sc) (.slice LA ln lc) (.slice OA on oc) (.slice BA bn bc) (.slice CA cn cc) (.slice PA pn pc) (.slice RA rn rc)))) (by kernel_rfl) ?_ (fun hHeld=>?_)
   ·(try dsimp only)
    first|exact j.out _ q
   refine onW 0 opA hHeld ?_
   refine onW 1 (opB opA) hHeld ?_
   refine onW 2 (opB (opB opA)) hHeld ?_
   refine onW 3 (opB (opB (opB opA))) hHeld ?_
   refine ig (i:=4) (opC opA) (fun K G=>?_)
   go_simp
   (go_at_call 35;(with_reducible refine (J.out _ q).mono ?_);rintro _ w5 ⟨rfl,B⟩;replace q:=aA q B;clear B)
   first|refine G.out _ _ ?_ (fun hHeld=>?_)|(go_wp2_with fail;refine G.out _ _ ?_ (fun hHeld=>?_))
   ·(try dsimp only)
    first|exact j.out _ q
   clear G K
   try simp only [Act.put,List.setIfInBounds_toArray,List.set_cons_zero,List.set_cons_succ]
   refine onW 5 (opC (opB opA)) hHeld ?_
   refine onW 6 (opC (opB (opB opA))) hHeld ?_
   refine onW 7 (opC (opB (opB (opB opA)))) hHeld ?_
   refine onW 8 (opC (opC opA)) hHeld ?_
   refine onW 9 (opC (opC (opB opA))) hHeld ?_
   refine onW 10 (opC (opC (opB (opB opA)))) hHeld ?_
   refine onW 11 (opC (opC (opB (opB (opB opA))))) hHeld ?_
   refine ig (i:=12) (opC (opC (opC opA))) (fun K G=>?_)
   go_simp
   (go_at_call 37;(with_reducible refine (U.out _ q).mono ?_);rintro e5 w5 ⟨A5,n5,c5,rfl,o5,B⟩;have O5:=Hd o5.rd;clear o5;replace q:=aA q B;clear B)
   first|refine G.out _ _ ?_ (fun hHeld=>?_)|(go_wp2_with fail;refine G.out _ _ ?_ (fun hHeld=>?_))
   ·(try dsimp only)
    first|exact j.out _ q
   clear G K
   try simp only [Act.put,List.setIfInBounds_toArray,List.set_cons_zero,List.set_cons_succ]
   refine ig (i:=13) (opC (opC (opC (opB opA)))) (fun K G=>?_)
   go_simp
   (go_at_call 36;(with_reducible refine (R.out _ q A5 n5 c5 O5.out).mono ?_);rintro _ w6 ⟨rfl,B⟩;replace q:=aA q B;clear B)
   first|refine G.out _ _ ?_ (fun hHeld=>?_)|(go_wp2_with fail;refine G.out _ _ ?_ (fun hHeld=>?_))
   ·(try dsimp only)
    first|exact j.out _ q
   clear G K
   try simp only [Act.put,List.setIfInBounds_toArray,List.set_cons_zero,List.set_cons_succ]
   refine onW 14 (opC (opC (opC (opB (opB opA))))) hHeld ?_
   refine onW 15 (opC (opC (opC (opB (opB (opB opA)))))) hHeld ?_
   refine onW 16 (opD opA) hHeld ?_
   refine onW 17 (opD (opB opA)) hHeld ?_
   refine onW 18 (opD (opB (opB opA))) hHeld ?_
   refine onW 20 (opD (opC opA)) hHeld ?_
   refine onW 21 (opD (opC (opB opA))) hHeld ?_
   refine ig (i:=19) (opD (opB (opB (opB opA)))) (fun K G=>?_)
   go_simp
   (go_at_call 39;(with_reducible refine (aw.out _ q).mono ?_);rintro e7 w7 ⟨A7,c7,rfl,o7,B⟩;have O7:=Hd o7.ints;clear o7;replace q:=aA q B;clear B)
   first|refine G.out _ _ ?_ (fun hHeld=>?_)|(go_wp2_with fail;refine G.out _ _ ?_ (fun hHeld=>?_))
   ·(try dsimp only)
    first|exact j.out _ q
   clear G K
   try simp only [Act.put,List.setIfInBounds_toArray,List.set_cons_zero,List.set_cons_succ]
   refine ig (i:=22) (opD (opC (opB (opB opA)))) (fun K G=>?_)
   go_simp
   (go_at_call 38;(with_reducible refine (aC.out _ q A7 c7 O7.out).mono ?_);rintro _ w8 ⟨rfl,B⟩;replace q:=aA q B;clear B)
   first|refine G.out _ _ ?_ (fun hHeld=>?_)|(go_wp2_with fail;refine G.out _ _ ?_ (fun hHeld=>?_))
   ·(try dsimp only)
    first|exact j.out _ q
   clear G K
   try simp only [Act.put,List.setIfInBounds_toArray,List.set_cons_zero,List.set_cons_succ]
   refine onW 23 (opD (opC (opB (opB (opB opA))))) hHeld ?_
   refine onW 24 (opD (opC (opC opA))) hHeld ?_
   refine bZ 25 (opD (opC (opC (opB opA)))) hHeld ?_
   refine bZ 26 (opD (opC (opC (opB (opB opA))))) hHeld ?_
   refine bZ 27 (opD (opC (opC (opB (opB (opB opA)))))) hHeld ?_
   refine bZ 28 (opD (opC (opC (opC opA)))) hHeld ?_
   refine bZ 29 (opD (opC (opC (opC (opB opA))))) hHeld ?_
   refine bZ 30 (opD (opC (opC (opC (opB (opB opA)))))) hHeld ?_
   refine bZ 31 (opD (opC (opC (opC (opB (opB (opB opA))))))) hHeld ?_
   refine bZ 32 (opD (opD opA)) hHeld ?_
   refine onW 33 (opD (opD (opB opA))) hHeld ?_
   refine onW 34 (opD (opD (opB (opB opA)))) hHeld ?_
   refine wpAnyH_done (by kernel_rfl) ?_ _
   have HD:=Hd (aA u.out q)
   clear q x0 x1 V x3 H y0 y1 W y3 y4 y5 Z Y D j
   go_wp2_with fail
   go_ret
   exact ⟨aO HR.out,HD.out⟩
  have Q:=Hd aJ
  have HR:Hid (¬jB d x):=fun h=>Q.out h.conns
  clear aJ
  go_enter Tryz.func8,Tryz.ntmps8
  go_upto_region 1 with fail
  generalize (w.alloc (.cells (dv d) 36)).alloc (.cells #[.int .i64 x.net.inputs,.slice SA sn sc,.slice LA ln lc,.slice OA on oc,.slice BA bn bc,.slice CA cn cc,.slice PA pn pc,.slice RA rn rc] 46)=z at *
  obtain ⟨x0,x1,V,x3,H⟩:=cO ay.out
  obtain ⟨y0,y1,W,y3,y4,y5,Z,Y,D⟩:=mK av.out
  have j:Hid (∀w',Below z.heap.size z w'→(KD w' w.heap.size d (K8e w' (w.heap.size+1) (.int .i64 x.net.inputs) (.slice SA sn sc) (.slice LA ln lc) (.slice OA on oc) (.slice BA bn bc) (.slice CA cn cc) (.slice PA pn pc) (.slice RA rn rc)))):=fun v g=>⟨(g.cell (p:=⟨w.heap.size,0,none⟩) H).trans x0,(g.cell (p:=⟨w.heap.size,1,none⟩) H).trans x1,(g.cell (p:=⟨w.heap.size,2,none⟩) H).trans V,(g.cell (p:=⟨w.heap.size,3,none⟩) H).trans x3,(g.cell (p:=⟨w.heap.size+1,0,none⟩) D).trans y0,(g.cell (p:=⟨w.heap.size+1,1,none⟩) D).trans y1,(g.cell (p:=⟨w.heap.size+1,2,none⟩) D).trans W,(g.cell (p:=⟨w.heap.size+1,3,none⟩) D).trans y3,(g.cell (p:=⟨w.heap.size+1,4,none⟩) D).trans y4,(g.cell (p:=⟨w.heap.size+1,5,none⟩) D).trans y5,(g.cell (p:=⟨w.heap.size+1,6,none⟩) D).trans Z,(g.cell (p:=⟨w.heap.size+1,7,none⟩) D).trans Y⟩
  have q:=(Below.refl z.heap.size z).drew
  have J:=Hd (fun (v:World) (g:Below z.heap.size z v)=>(by have h:=kS x.net SA LA OA sn sc ln lc on oc x.blocks BA bn bc v (HN.out.below (aA u.out g)) (HB.out.below (aA u.out g)) ax.out;rwa [ae I.out] at h:Calls Tryz.prog 35 #[jE x.net SA LA OA sn sc ln lc on oc,.slice BA bn bc] v fun e w'=>e = .returned (.bool true)/\Below v.heap.size v w'))
  have U:=Hd (fun (v:World) (g:Below z.heap.size z v)=>mU x.net SA LA OA sn sc ln lc on oc x.blocks BA bn bc v (HN.out.below (aA u.out g)) (HB.out.below (aA u.out g)) I.out)
  have R:=Hd (fun (v:World) (g:Below z.heap.size z v) (A:Option Addr) (n c:Nat) (h:RdC v v.heap.size (ah (eY x.net x.blocks)) (.slice A n c))=>(by have h:=kr x.conns (eY x.net x.blocks) CA A cn cc n c v (HC.out.below (aA u.out g)) h aL aq.out;rwa [bJ Q.out] at h:Calls Tryz.prog 36 #[.slice CA cn cc,.slice A n c] v fun e w'=>e = .returned (.bool false)/\Below v.heap.size v w'))
  refine wp_region_held_drew (S:=(fun w'=>KD w' w.heap.size d (K8e w' (w.heap.size+1) (.int .i64 x.net.inputs) (.slice SA sn sc) (.slice LA ln lc) (.slice OA on oc) (.slice BA bn bc) (.slice CA cn cc) (.slice PA pn pc) (.slice RA rn rc)))) (by kernel_rfl) ?_ (fun hHeld=>?_)
  ·(try dsimp only)
   first|exact j.out _ q
  refine onW 0 opA hHeld ?_
  refine onW 1 (opB opA) hHeld ?_
  refine onW 2 (opB (opB opA)) hHeld ?_
  refine onW 3 (opB (opB (opB opA))) hHeld ?_
  refine ig (i:=4) (opC opA) (fun K G=>?_)
  go_simp
  (go_at_call 35;(with_reducible refine (J.out _ q).mono ?_);rintro _ w5 ⟨rfl,B⟩;replace q:=aA q B;clear B)
  first|refine G.out _ _ ?_ (fun hHeld=>?_)|(go_wp2_with fail;refine G.out _ _ ?_ (fun hHeld=>?_))
  ·(try dsimp only)
   first|exact j.out _ q
  clear G K
  try simp only [Act.put,List.setIfInBounds_toArray,List.set_cons_zero,List.set_cons_succ]
  refine onW 5 (opC (opB opA)) hHeld ?_
  refine onW 6 (opC (opB (opB opA))) hHeld ?_
  refine onW 7 (opC (opB (opB (opB opA)))) hHeld ?_
  refine onW 8 (opC (opC opA)) hHeld ?_
  refine onW 9 (opC (opC (opB opA))) hHeld ?_
  refine onW 10 (opC (opC (opB (opB opA)))) hHeld ?_
  refine onW 11 (opC (opC (opB (opB (opB opA))))) hHeld ?_
  refine ig (i:=12) (opC (opC (opC opA))) (fun K G=>?_)
  go_simp
  (go_at_call 37;(with_reducible refine (U.out _ q).mono ?_);rintro e5 w5 ⟨A5,n5,c5,rfl,o5,B⟩;have O5:=Hd o5.rd;clear o5;replace q:=aA q B;clear B)
  first|refine G.out _ _ ?_ (fun hHeld=>?_)|(go_wp2_with fail;refine G.out _ _ ?_ (fun hHeld=>?_))
  ·(try dsimp only)
   first|exact j.out _ q
  clear G K
  try simp only [Act.put,List.setIfInBounds_toArray,List.set_cons_zero,List.set_cons_succ]
  refine ig (i:=13) (opC (opC (opC (opB opA)))) (fun K G=>?_)
  go_simp
  (go_at_call 36;(with_reducible refine (R.out _ q A5 n5 c5 O5.out).mono ?_);rintro _ w6 ⟨rfl,B⟩;replace q:=aA q B;clear B)
  first|refine G.out _ _ ?_ (fun hHeld=>?_)|(go_wp2_with fail;refine G.out _ _ ?_ (fun hHeld=>?_))
  ·(try dsimp only)
   first|exact j.out _ q
  clear G K
  try simp only [Act.put,List.setIfInBounds_toArray,List.set_cons_zero,List.set_cons_succ]
  refine onW 14 (opC (opC (opC (opB (opB opA))))) hHeld ?_
  refine onW 15 (opC (opC (opC (opB (opB (opB opA)))))) hHeld ?_
  refine bZ 16 (opD opA) hHeld ?_
  refine bZ 17 (opD (opB opA)) hHeld ?_
  refine bZ 18 (opD (opB (opB opA))) hHeld ?_
  refine bZ 19 (opD (opB (opB (opB opA)))) hHeld ?_
  refine bZ 20 (opD (opC opA)) hHeld ?_
  refine bZ 21 (opD (opC (opB opA))) hHeld ?_
  refine bZ 22 (opD (opC (opB (opB opA)))) hHeld ?_
  refine onW 23 (opD (opC (opB (opB (opB opA))))) hHeld ?_
  refine onW 24 (opD (opC (opC opA))) hHeld ?_
  refine bZ 25 (opD (opC (opC (opB opA)))) hHeld ?_
  refine bZ 26 (opD (opC (opC (opB (opB opA))))) hHeld ?_
  refine bZ 27 (opD (opC (opC (opB (opB (opB opA)))))) hHeld ?_
  refine bZ 28 (opD (opC (opC (opC opA)))) hHeld ?_
  refine bZ 29 (opD (opC (opC (opC (opB opA))))) hHeld ?_
  refine bZ 30 (opD (opC (opC (opC (opB (opB opA)))))) hHeld ?_
  refine bZ 31 (opD (opC (opC (opC (opB (opB (opB opA))))))) hHeld ?_
  refine bZ 32 (opD (opD opA)) hHeld ?_
  refine onW 33 (opD (opD (opB opA))) hHeld ?_
  refine onW 34 (opD (opD (opB (opB opA)))) hHeld ?_
  refine wpAnyH_done (by kernel_rfl) ?_ _
  have HD:=Hd (aA u.out q)
  clear q x0 x1 V x3 H y0 y1 W y3 y4 y5 Z Y D j
  go_wp2_with fail
  go_ret
  exact ⟨aO HR.out,HD.out⟩
 have I:=Hd aK
 have HR:Hid (¬jB d x):=fun h=>I.out h.pack
 clear aK
 go_enter Tryz.func8,Tryz.ntmps8
 go_upto_region 1 with fail
 generalize (w.alloc (.cells (dv d) 36)).alloc (.cells #[.int .i64 x.net.inputs,.slice SA sn sc,.slice LA ln lc,.slice OA on oc,.slice BA bn bc,.slice CA cn cc,.slice PA pn pc,.slice RA rn rc] 46)=z at *
 obtain ⟨x0,x1,V,x3,H⟩:=cO ay.out
 obtain ⟨y0,y1,W,y3,y4,y5,Z,Y,D⟩:=mK av.out
 have j:Hid (∀w',Below z.heap.size z w'→(KD w' w.heap.size d (K8e w' (w.heap.size+1) (.int .i64 x.net.inputs) (.slice SA sn sc) (.slice LA ln lc) (.slice OA on oc) (.slice BA bn bc) (.slice CA cn cc) (.slice PA pn pc) (.slice RA rn rc)))):=fun v g=>⟨(g.cell (p:=⟨w.heap.size,0,none⟩) H).trans x0,(g.cell (p:=⟨w.heap.size,1,none⟩) H).trans x1,(g.cell (p:=⟨w.heap.size,2,none⟩) H).trans V,(g.cell (p:=⟨w.heap.size,3,none⟩) H).trans x3,(g.cell (p:=⟨w.heap.size+1,0,none⟩) D).trans y0,(g.cell (p:=⟨w.heap.size+1,1,none⟩) D).trans y1,(g.cell (p:=⟨w.heap.size+1,2,none⟩) D).trans W,(g.cell (p:=⟨w.heap.size+1,3,none⟩) D).trans y3,(g.cell (p:=⟨w.heap.size+1,4,none⟩) D).trans y4,(g.cell (p:=⟨w.heap.size+1,5,none⟩) D).trans y5,(g.cell (p:=⟨w.heap.size+1,6,none⟩) D).trans Z,(g.cell (p:=⟨w.heap.size+1,7,none⟩) D).trans Y⟩
 have q:=(Below.refl z.heap.size z).drew
 have J:=Hd (fun (v:World) (g:Below z.heap.size z v)=>(by have h:=kS x.net SA LA OA sn sc ln lc on oc x.blocks BA bn bc v (HN.out.below (aA u.out g)) (HB.out.below (aA u.out g)) ax.out;rwa [bJ I.out] at h:Calls Tryz.prog 35 #[jE x.net SA LA OA sn sc ln lc on oc,.slice BA bn bc] v fun e w'=>e = .returned (.bool false)/\Below v.heap.size v w'))
 refine wp_region_held_drew (S:=(fun w'=>KD w' w.heap.size d (K8e w' (w.heap.size+1) (.int .i64 x.net.inputs) (.slice SA sn sc) (.slice LA ln lc) (.slice OA on oc) (.slice BA bn bc) (.slice CA cn cc) (.slice PA pn pc) (.slice RA rn rc)))) (by kernel_rfl) ?_ (fun hHeld=>?_)
 ·(try dsimp only)
  first|exact j.out _ q
 refine onW 0 opA hHeld ?_
 refine onW 1 (opB opA) hHeld ?_
 refine onW 2 (opB (opB opA)) hHeld ?_
 refine onW 3 (opB (opB (opB opA))) hHeld ?_
 refine ig (i:=4) (opC opA) (fun K G=>?_)
 go_simp
 (go_at_call 35;(with_reducible refine (J.out _ q).mono ?_);rintro _ w5 ⟨rfl,B⟩;replace q:=aA q B;clear B)
 first|refine G.out _ _ ?_ (fun hHeld=>?_)|(go_wp2_with fail;refine G.out _ _ ?_ (fun hHeld=>?_))
 ·(try dsimp only)
  first|exact j.out _ q
 clear G K
 try simp only [Act.put,List.setIfInBounds_toArray,List.set_cons_zero,List.set_cons_succ]
 refine onW 5 (opC (opB opA)) hHeld ?_
 refine bZ 6 (opC (opB (opB opA))) hHeld ?_
 refine bZ 7 (opC (opB (opB (opB opA)))) hHeld ?_
 refine bZ 8 (opC (opC opA)) hHeld ?_
 refine bZ 9 (opC (opC (opB opA))) hHeld ?_
 refine bZ 10 (opC (opC (opB (opB opA)))) hHeld ?_
 refine bZ 11 (opC (opC (opB (opB (opB opA))))) hHeld ?_
 refine bZ 12 (opC (opC (opC opA))) hHeld ?_
 refine bZ 13 (opC (opC (opC (opB opA)))) hHeld ?_
 refine onW 14 (opC (opC (opC (opB (opB opA))))) hHeld ?_
 refine onW 15 (opC (opC (opC (opB (opB (opB opA)))))) hHeld ?_
 refine bZ 16 (opD opA) hHeld ?_
 refine bZ 17 (opD (opB opA)) hHeld ?_
 refine bZ 18 (opD (opB (opB opA))) hHeld ?_
 refine bZ 19 (opD (opB (opB (opB opA)))) hHeld ?_
 refine bZ 20 (opD (opC opA)) hHeld ?_
 refine bZ 21 (opD (opC (opB opA))) hHeld ?_
 refine bZ 22 (opD (opC (opB (opB opA)))) hHeld ?_
 refine onW 23 (opD (opC (opB (opB (opB opA))))) hHeld ?_
 refine onW 24 (opD (opC (opC opA))) hHeld ?_
 refine bZ 25 (opD (opC (opC (opB opA)))) hHeld ?_
 refine bZ 26 (opD (opC (opC (opB (opB opA))))) hHeld ?_
 refine bZ 27 (opD (opC (opC (opB (opB (opB opA)))))) hHeld ?_
 refine bZ 28 (opD (opC (opC (opC opA)))) hHeld ?_
 refine bZ 29 (opD (opC (opC (opC (opB opA))))) hHeld ?_
 refine bZ 30 (opD (opC (opC (opC (opB (opB opA)))))) hHeld ?_
 refine bZ 31 (opD (opC (opC (opC (opB (opB (opB opA))))))) hHeld ?_
 refine bZ 32 (opD (opD opA)) hHeld ?_
 refine onW 33 (opD (opD (opB opA))) hHeld ?_
 refine onW 34 (opD (opD (opB (opB opA)))) hHeld ?_
 refine wpAnyH_done (by kernel_rfl) ?_ _
 have HD:=Hd (aA u.out q)
 clear q x0 x1 V x3 H y0 y1 W y3 y4 y5 Z Y D j
 go_wp2_with fail
 go_ret
 exact ⟨aO HR.out,HD.out⟩
end Go.Proofs.YtofihjoanjkdmaaGreat
