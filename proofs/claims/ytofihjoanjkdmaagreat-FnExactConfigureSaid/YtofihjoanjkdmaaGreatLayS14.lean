/- Routing nodes of connections in the reference (printed by mksns.py). -/
import Derived.Test.YtofihjoanjkdmaaGreatLayG7
import Derived.Test.YtofihjoanjkdmaaGreatLayS12
import Derived.Test.YtofihjoanjkdmaaGreatLayS5
namespace Go.Proofs.YtofihjoanjkdmaaGreat
set_option maxHeartbeats 8000000
set_option maxRecDepth 100000
open Go.RowKit
theorem Eo (d:Dev) (t p:Int) (w:World) :
  Calls Tryz.prog 209 #[.agg (dv d),.int .i64 t,.int .i64 p] w fun e w'=>e = .returned (.int .i64 (eX d t p))/\Below w.heap.size w w':=by
 have H:Hid (eX d t p=if bB d t=true/\0<=p/\p<eF (bL d t) then t * aV d+5+p else -1):=rfl
 have u:=Hd (aB (Below.refl w.heap.size w) (.cells (dv d) 36))
 by_cases j:p<0
 ·have q:Hid (eX d t p=-1):=by show _=_;rw [H.out,if_neg];rintro ⟨_,h0,_⟩;omega
  have dp:decide (p<0)=true:=decide_eq_true j
  clear j
  go_enter Tryz.func209,Tryz.ntmps209
  go_wp2_with fail
  go_ret
  exact ⟨aL q.out.symm,u.out⟩
 have dp:decide (p<0)=false:=decide_eq_false j
 cases ht:bB d t with
 | false =>
  have q:Hid (eX d t p=-1):=by show _=_;rw [H.out,if_neg];rintro ⟨h0,_⟩;rw [ht] at h0;cases h0
  have z:Hid (lh d t=-1):=by show _=_;unfold lh;rw [ht];rfl
  have dq:decide (p≥0)=true:=decide_eq_true (by omega)
  have ah:decide (0<=p)=true:=decide_eq_true (by omega)
  clear j ht
  go_enter Tryz.func209,Tryz.ntmps209
  go_wp2_with fail
  refine (pV d t _).mono ?_
  rw [z.out]
  rintro _ w2 ⟨rfl,B⟩
  have g:=Hd (aA u.out B)
  clear B
  go_wp2_with fail
  refine (ky (-1) _).mono ?_
  rw [show eF (-1)=0 from rfl]
  rintro _ V ⟨rfl,rfl⟩
  go_wp2_with fail
  go_ret
  exact ⟨aL q.out.symm,g.out⟩
 | true =>
  have z:Hid (lh d t=bL d t):=by show _=_;unfold lh;rw [if_pos ht]
  obtain ⟨G,U,ag⟩:=aU.1 ht
  have ai:=fJ G
  have hT:=ay G
  have Y:=eP G
  have aj:=iZ d t
  have HM:=Hd (jc U (show t<=35 by omega) (show 0<=aV d by omega) Y.2)
  have HT:=Hd ht
  clear ht G
  go_enter Tryz.func209,Tryz.ntmps209
  go_wp2_with fail
  refine (pV d t _).mono ?_
  rw [z.out]
  rintro _ w2 ⟨rfl,B⟩
  have g:=Hd (aA u.out B)
  have R:=B.size
  simp only [World.size_alloc] at R
  obtain ⟨hcc,I⟩:=bG B
  clear B
  generalize bL d t=K at *
  go_wp2_with fail
  refine (ky K _).mono ?_
  generalize eF K=Q at *
  rintro _ V ⟨rfl,rfl⟩
  by_cases D:p<Q
  ·have Z:decide (p≥Q)=false:=by simp;omega
   have q:Hid (eX d t p=t * aV d+5+p):=by show _=_;rw [H.out,if_pos ⟨HT.out,by omega,D⟩]
   go_wp2_with fail
   refine (eH d _ (by omega) (by omega)).mono ?_
   rintro _ V ⟨rfl,W⟩
   have J:=Hd (aA g.out W)
   have hM:=HM.out
   clear W hcc I
   go_wp2_with fail
   go_ret
   exact ⟨aL q.out.symm,J.out⟩
  have Z:decide (p≥Q)=true:=by simp;omega
  have q:Hid (eX d t p=-1):=by show _=_;rw [H.out,if_neg];rintro ⟨_,_,h1⟩;exact D h1
  go_wp2_with fail
  go_ret
  exact ⟨aL q.out.symm,g.out⟩
theorem uG (d:Dev) (place:List Int) (N a b:Int) (ss:List bS) (PA SA:Option Addr) (pn pc m z:Nat) (w:World) (U:dP w PA pn place) (au:pn<=1048576) :
  Calls Tryz.prog 119 #[.agg (dv d),.slice PA pn pc,.agg #[.int .i64 N,.int .i64 a,.int .i64 b,.slice SA m z]] w fun e w'=>e = .returned (.int .i64 (fQ d place ⟨N,⟨a,b⟩,ss⟩))/\Below w.heap.size w w':=by
 have HP:=Hd U
 have u:fQ d place ⟨N,⟨a,b⟩,ss⟩=if 0<=a/\a<(place.length:Int) then eX d (place[a.toNat]?.getD 0) b else -1:=rfl
 rw [U.1] at u
 clear U
 have q:=Hd (aB (aB (Below.refl w.heap.size w) (.cells (dv d) 36)) (.cells #[.int .i64 N,.int .i64 a,.int .i64 b,.slice SA m z] 158))
 have j:=aW (.cells #[.int .i64 N,.int .i64 a,.int .i64 b,.slice SA m z] 158) (aI w (.cells (dv d) 36))
 have g:=aI (w.alloc (.cells (dv d) 36)) (.cells #[.int .i64 N,.int .i64 a,.int .i64 b,.slice SA m z] 158)
 simp only [World.size_alloc] at g
 obtain ⟨D,B⟩:=hd2 j g
 clear j g
 by_cases h1:a<0
 ·have dz:decide (a<0)=true:=decide_eq_true h1
  have K:Hid (fQ d place ⟨N,⟨a,b⟩,ss⟩=-1):=by show _=_;rw [u,if_neg fun h=>by omega]
  clear u
  go_enter Tryz.func119,Tryz.ntmps119
  go_upto_region 1 with fail
  generalize (w.alloc (.cells (dv d) 36)).alloc (.cells #[.int .i64 N,.int .i64 a,.int .i64 b,.slice SA m z] 158)=G at *
  have j:=D.out
  have g:=B.out
  obtain ⟨x0,x1,W,V⟩:=cs4 j
  obtain ⟨y0,Y,Z,Q⟩:=cs4 g
  have lx:=aC j
  have ly:=aC g
  clear j g
  go_wp2_with fail
  go_ret
  exact ⟨aL K.out.symm,q.out⟩
 have dz:decide (a<0)=false:=decide_eq_false h1
 by_cases h2:(pn:Int)<=a
 ·have dp:decide ((pn:Int)<=a)=true:=decide_eq_true h2
  have R:decide (a≥(pn:Int))=true:=decide_eq_true h2
  have K:Hid (fQ d place ⟨N,⟨a,b⟩,ss⟩=-1):=by show _=_;rw [u,if_neg fun h=>by omega]
  clear u
  go_enter Tryz.func119,Tryz.ntmps119
  go_upto_region 1 with fail
  generalize (w.alloc (.cells (dv d) 36)).alloc (.cells #[.int .i64 N,.int .i64 a,.int .i64 b,.slice SA m z] 158)=G at *
  have j:=D.out
  have g:=B.out
  obtain ⟨x0,x1,W,V⟩:=cs4 j
  obtain ⟨y0,Y,Z,Q⟩:=cs4 g
  have lx:=aC j
  have ly:=aC g
  clear j g
  go_wp2_with fail
  go_ret
  exact ⟨aL K.out.symm,q.out⟩
 have dp:decide ((pn:Int)<=a)=false:=decide_eq_false h2
 have R:decide (a≥(pn:Int))=false:=decide_eq_false h2
 obtain ⟨X,rfl⟩:∃X:Nat,a=(X:Int):=⟨a.toNat,by omega⟩
 have hX:X<pn:=by omega
 rw [if_pos ⟨by omega,by omega⟩,Int.toNat_natCast] at u
 obtain ⟨bp,op,rfl,I,J⟩:=HP.out.2 (by omega)
 have cp:=(q.out.cell (p:=⟨bp,op+X,none⟩) I).trans (J X hX)
 have ak:=aK q.out I
 generalize place[X]?.getD 0=t at *
 have K:=Hd u
 have iX:(X:Int)<(pn:Int):=by omega
 have i0:(0:Int)<=(X:Int):=by omega
 clear u J
 go_enter Tryz.func119,Tryz.ntmps119
 go_upto_region 1 with fail
 generalize (w.alloc (.cells (dv d) 36)).alloc (.cells #[.int .i64 N,.int .i64 (X:Int),.int .i64 b,.slice SA m z] 158)=G at *
 have j:=D.out
 have g:=B.out
 obtain ⟨x0,x1,W,V⟩:=cs4 j
 obtain ⟨y0,Y,Z,Q⟩:=cs4 g
 have lx:=aC j
 have ly:=aC g
 clear j g
 have ai:=Hd (fun (x:Sub G)=>Eo d t b x.v)
 go_upto_region 3 with fail
 have H:=aY G
 have af:=aP G
 refine wpB G ?_
 repeat (go_big_quiet_step ((first
  | (go_at_call 209;with_reducible exact aN (ai.out _)))))
 refine wpQuiet_nil ?_
 rintro _ ⟨⟨w5,hD⟩,rfl⟩
 clear H af
 have HD:=Hd (aA q.out hD)
 clear hD x0 x1 W V y0 Y Z Q lx ly cp ak
 go_wp2_with fail
 go_ret
 exact ⟨aL K.out.symm,HD.out⟩
theorem ui (d:Dev) (place:List Int) (N a b:Int) (ss:List bS) (PA SA:Option Addr) (pn pc m V:Nat) (w:World) (hp:dP w PA pn place) (hs:RdC w w.heap.size (bR ss) (.slice SA m V)) (be:pn<=1048576) (hm:m<=1048576) :
  Calls Tryz.prog 117 #[.agg (dv d),.slice PA pn pc,.agg #[.int .i64 N,.int .i64 a,.int .i64 b,.slice SA m V]] w fun e w'=>(gy d place ⟨N,⟨a,b⟩,ss⟩/\(∃A c,e = .returned (.slice A m c)/\Own w.heap.size w' A m c (dL d place ⟨N,⟨a,b⟩,ss⟩))∨¬gy d place ⟨N,⟨a,b⟩,ss⟩/\∃A c,e = .returned (.slice A 0 c))/\Below w.heap.size w w':=by
 obtain ⟨HP,al⟩:=hd2 hp hs
 have K:Hid (ss.length=m):=hs.pinN
 clear hp hs
 have ah:=Hd (aB (aB (Below.refl w.heap.size w) (.cells (dv d) 36)) (.cells #[.int .i64 N,.int .i64 a,.int .i64 b,.slice SA m V] 158))
 have hx:=aW (.cells #[.int .i64 N,.int .i64 a,.int .i64 b,.slice SA m V] 158) (aI w (.cells (dv d) 36))
 have hy:=aI (w.alloc (.cells (dv d) 36)) (.cells #[.int .i64 N,.int .i64 a,.int .i64 b,.slice SA m V] 158)
 simp only [World.size_alloc] at hy
 obtain ⟨ap,ay⟩:=hd2 hx hy
 clear hx hy
 go_enter Tryz.func117,Tryz.ntmps117
 go_upto_region 1 with fail
 generalize (w.alloc (.cells (dv d) 36)).alloc (.cells #[.int .i64 N,.int .i64 a,.int .i64 b,.slice SA m V] 158)=W9 at *
 go_wp2_with fail
 go_loopw [7,8] (fun v i wr=>∃(k:Nat) (A:Option Addr) (c:Nat),k<=m/\i = .int .i64 (k:Int)/\v = .slice A k c/\aJ W9 wr [.cel (aH ((ss.take k).map (dH d place))) (.slice A k c)]/\∀j,j<k→0<=dH d place (ss[j]?.getD bS.zero)) (fun _ i _=>m - (intOf i).toNat)
 ·exact ⟨0,_,_,by omega,rfl,rfl,(aJ.refl W9).pushNew 3 1,fun j hj=>by omega⟩
 obtain ⟨k,A1,c1,hk,rfl,rfl,hs,G⟩:=hrel
 obtain ⟨HS,u⟩:=hd2 hs G
 have g:=Hd (aA ah.out hs.bel)
 clear hs G
 obtain ⟨x0,x1,x2,x3,lx⟩:=cO (aD HS.out.bel ap.out)
 obtain ⟨-,-,-,y3,ly⟩:=cO (aD HS.out.bel ay.out)
 have i0:(0:Int)<=(k:Int):=by omega
 by_cases aX:k<m
 ·have au:=dT (by omega:k<m)
  have B:k<ss.length:=by rw [K.out];exact aX
  obtain ⟨bs,os,ag,R,d0,Z⟩:=al.out.pin (k:=k) B
  have aL:=Hd ag
  have J:=aK g.out R
  rw [←g.out.cell (p:=⟨bs,os+k * 2,none⟩) R] at d0
  rw [←g.out.cell (p:=⟨bs,os+k * 2+1,none⟩) R] at Z
  have W:Hid (0<=dH d place (ss[k]?.getD bS.zero)→∀j,j<k+1→0<=dH d place (ss[j]?.getD bS.zero)):=fun h=>bW u.out h
  have q:Hid (¬0<=dH d place (ss[k]?.getD bS.zero)→¬gy d place ⟨N,⟨a,b⟩,ss⟩):=fun h h'=>h (by rw [List.getElem?_eq_getElem B];exact h' _ (List.getElem_mem B))
  have D:=Hd (show (ss.take (k+1)).map (dH d place)=(ss.take k).map (dH d place)++[dH d place (ss[k]?.getD bS.zero)] from by rw [bU (z:=bS.zero) B,List.map_append];rfl)
  clear B ag
  obtain rfl:=aL.out
  generalize ss[k]?.getD bS.zero=p at *
  obtain ⟨x,y⟩:=p
  simp only at d0 Z
  have H:dH d place ⟨x,y⟩=if 0<=x/\x<(place.length:Int) then oI d (place[x.toNat]?.getD 0) y else -1:=rfl
  rw [HP.out.1] at H
  have i1:(k:Int)<(m:Int):=by omega
  by_cases h1:x<0
  ·have dz:decide (x<0)=true:=decide_eq_true h1
   have U:dH d place ⟨x,y⟩=-1:=by rw [H,if_neg fun h=>by omega]
   have Q:=Hd (q.out (by omega))
   clear H U W q D
   go_upto_region 6 with fail
   clear x0 x1 x2 x3 lx y3 ly d0 Z J
   go_wp2_with fail
   go_ret
   exact ⟨.inr ⟨Q.out,_,_,rfl⟩,aB g.out _⟩
  have dz:decide (x<0)=false:=decide_eq_false h1
  by_cases h2:(pn:Int)<=x
  ·have dp:decide ((pn:Int)<=x)=true:=decide_eq_true h2
   have aM:decide (x≥(pn:Int))=true:=decide_eq_true h2
   have U:dH d place ⟨x,y⟩=-1:=by rw [H,if_neg fun h=>by omega]
   have Q:=Hd (q.out (by omega))
   clear H U W q D
   go_upto_region 6 with fail
   clear x0 x1 x2 x3 lx y3 ly d0 Z J
   go_wp2_with fail
   go_ret
   exact ⟨.inr ⟨Q.out,_,_,rfl⟩,aB g.out _⟩
  have dp:decide ((pn:Int)<=x)=false:=decide_eq_false h2
  have aM:decide (x≥(pn:Int))=false:=decide_eq_false h2
  obtain ⟨X,rfl⟩:∃X:Nat,x=(X:Int):=⟨x.toNat,by omega⟩
  have hX:X<pn:=by omega
  rw [if_pos ⟨by omega,by omega⟩,Int.toNat_natCast] at H
  obtain ⟨bp,op,aj,Y,ai⟩:=HP.out.2 (by omega)
  have aG:=Hd aj
  have cp:=(g.out.cell (p:=⟨bp,op+X,none⟩) Y).trans (ai X hX)
  have ar:=aK g.out Y
  clear aj
  obtain rfl:=aG.out
  generalize place[X]?.getD 0=t at *
  have aO:=Hd H
  have iX:(X:Int)<(pn:Int):=by omega
  have bc:(0:Int)<=(X:Int):=by omega
  have aR:=Hd (fun (x:Sub wr)=>BU d t y x.v)
  clear H ai
  go_upto_region 8 with fail
  have af:=aY wr
  have aC:=aP wr
  refine wpB wr ?_
  repeat (go_big_quiet_step ((first
   | (go_at_call 206;with_reducible exact aN (aR.out _)))))
  refine wpQuiet_nil ?_
  rintro _ ⟨⟨w5,hD⟩,rfl⟩
  clear af aC
  have ax:=Hd (HS.out.below hD)
  have av:=Hd (aA g.out hD)
  clear hD x0 x1 x2 x3 lx y3 ly d0 Z J cp ar
  rw [aO.out] at W q D
  generalize oI d t y=z at *
  by_cases hz:0<=z
  ·have dq:decide (z<0)=false:=decide_eq_false (by omega)
   have aF:=Hd (W.out hz)
   clear W q
   go_wp2_with (at_builtin;refine gF rfl _ _ rfl _ (ax.out.alloc _) 0 A1 k c1 ((ss.take k).map (dH d place)) z _ (0,0) rfl rfl rfl (aI _ _) (by omega) ?_;intro g9 a5 w9 S9 aE;have aT:=Hd S9;clear S9 aE)
   go_roundw
   ·exact ⟨k+1,_,_,by omega,by go_num,rfl,by rw [D.out];exact aT.out,aF.out⟩
   simp [intOf];omega
  have dq:decide (z<0)=true:=decide_eq_true (by omega)
  have Q:=Hd (q.out (by omega))
  clear W q D
  go_wp2_with fail
  go_ret
  exact ⟨.inr ⟨Q.out,_,_,rfl⟩,aB av.out _⟩
 have I:k=m:=by omega
 have au:=dF (by omega:m<=k)
 have Q:Hid (gy d place ⟨N,⟨a,b⟩,ss⟩):=fun p hp=>by
  obtain ⟨j,hj,rfl⟩:=List.getElem_of_mem hp
  have h:=u.out j (by rw [I,←K.out];exact hj)
  rwa [List.getElem?_eq_getElem hj] at h
 have HD:Hid (aJ W9 wr [.cel (aH (dL d place ⟨N,⟨a,b⟩,ss⟩)) (.slice A1 m c1)]):=by
  have h:=HS.out
  rwa [I,List.take_of_length_le (by rw [K.out];exact Nat.le_refl _)] at h
 subst I
 clear HS u
 go_wp2_with fail
 go_ret
 exact ⟨.inl ⟨Q.out,_,_,rfl,(HD.out.owned 0 rfl).more ah.out.size⟩,g.out⟩
theorem uj (n a b:Int) (w:World) :
  Calls Tryz.prog 205 #[.agg #[.int .i64 a,.int .i64 b],.int .i64 n] w fun e w'=>e = .returned (.bool (tb (gJ n ⟨a,b⟩)))/\Below w.heap.size w w':=by
 have g:=Hd (aB (Below.refl w.heap.size w) (.cells #[.int .i64 a,.int .i64 b] 100))
 have q:Hid (gJ n ⟨a,b⟩↔(0<=a/\a<n)/\0<=b/\b<=4):=Iff.rfl
 by_cases h1:0<=a
 ·have z:decide (0<=a)=true:=decide_eq_true h1
  by_cases h2:a<n
  ·have u:decide (a<n)=true:=decide_eq_true h2
   have j:Hid (inR b 0 4=tb (gJ n ⟨a,b⟩)):=EH (by rw [aR,q.out];omega)
   clear h1 h2
   go_enter Tryz.func205,Tryz.ntmps205
   go_wp2_with fail
   refine (aj b 0 4 _).mono ?_
   rintro _ w' ⟨rfl,rfl⟩
   go_wp2_with fail
   go_ret
   exact ⟨dC j.out,g.out⟩
  have u:decide (a<n)=false:=decide_eq_false h2
  have j:Hid (¬gJ n ⟨a,b⟩):=fun h=>h2 (q.out.1 h).1.2
  clear h1 h2
  go_enter Tryz.func205,Tryz.ntmps205
  go_wp2_with fail
  go_ret
  exact ⟨aO j.out,g.out⟩
 have z:decide (0<=a)=false:=decide_eq_false h1
 have j:Hid (¬gJ n ⟨a,b⟩):=fun h=>h1 (q.out.1 h).1.1
 clear h1
 go_enter Tryz.func205,Tryz.ntmps205
 go_wp2_with fail
 go_ret
 exact ⟨aO j.out,g.out⟩
theorem pg (n:Int) (cs:List Cn) (CA:Option Addr) (cn cc:Nat) (w:World) (hC:RdC w w.heap.size (ah cs) (.slice CA cn cc)) (aw:∀c∈cs,c.sinks.length<=1048576) :
  Calls Tryz.prog 115 #[.int .i64 n,.slice CA cn cc] w fun e w'=>e = .returned (.bool (tb (jJ n cs)))/\Below w.heap.size w w':=by
 have V:=hC.cnN
 obtain ⟨ad,HC,aH⟩:=hd3 V hC aw
 clear hC aw
 cases hr:inR n 0 64 with
 | false =>
  have Q:Hid (¬jJ n cs):=fun h=>by rw [aR.2 h.blocks] at hr;cases hr
  have H1:=Hd hr
  clear hr
  go_enter Tryz.func115,Tryz.ntmps115
  go_wp2_with fail
  refine (aj n 0 64 _).mono ?_
  rw [H1.out]
  rintro _ w' ⟨rfl,rfl⟩
  go_wp2_with fail
  go_ret
  exact ⟨aO Q.out,Below.refl _ _⟩
 | true =>
  have hn:=aR.1 hr
  have H1:=Hd hr
  clear hr
  by_cases Z:cn<=100
  ·have aB:decide ((100:Int)<(cn:Int))=false:=decide_eq_false (by omega)
   clear V
   go_enter Tryz.func115,Tryz.ntmps115
   go_wp2_with fail
   refine (aj n 0 64 _).mono ?_
   rw [H1.out]
   rintro _ w' ⟨rfl,rfl⟩
   go_wp2_with fail
   go_loopw [5] (fun i wr=>∃k:Nat,k<=cn/\i = .int .i64 (k:Int)/\Below w.heap.size w wr/\∀j,j<k→oz n (cs[j]?.getD Cn.zero)) (fun i _=>cn - (intOf i).toNat)
   ·exact ⟨0,by omega,rfl,Below.refl _ _,fun j hj=>by omega⟩
   obtain ⟨k,hk,rfl,hb,B⟩:=hrel
   obtain ⟨z,K⟩:=hd2 hb B
   clear hb B
   by_cases aU:k<cn
   ·have aL:=dT (by omega:k<cn)
    have I:k<cs.length:=by rw [ad.out];exact aU
    obtain ⟨bc,oc,SA,m,mc,av,u,c0,c1,c2,c3,rs⟩:=HC.out.cn (k:=k) I
    have aS:=Hd av
    have hg:oz n (cs[k]?.getD Cn.zero)→∀j,j<k+1→oz n (cs[j]?.getD Cn.zero):=fun h=>bW K.out h
    have ay:jJ n cs→oz n (cs[k]?.getD Cn.zero):=fun h=>by rw [List.getElem?_eq_getElem I];exact h.fit _ (List.getElem_mem I)
    have G:=aH.out _ (List.getElem_mem I)
    rw [show cs[k]=cs[k]?.getD Cn.zero by rw [List.getElem?_eq_getElem I];rfl] at G
    obtain ⟨Y,U⟩:=hd2 hg ay
    clear I hg ay av
    obtain rfl:=aS.out
    generalize cs[k]?.getD Cn.zero=c at *
    obtain ⟨N,⟨a,b⟩,ss⟩:=c
    simp only at c0 c1 c2 c3 G
    have am:=Hd (show RdC w w.heap.size (bR ss) (.slice SA m mc) from rs)
    have H:Hid (ss.length=m):=am.out.pinN
    have hm:m<=1048576:=by rw [←H.out];exact G
    obtain ⟨i0,i1⟩:=ib (by omega:k<cn)
    obtain ⟨ar,au,az⟩:=hd3 c1 c2 c3
    clear rs G c0 c1 c2 c3
    have J:=aK z.out u
    have c1:=(z.out.cell (p:=⟨bc,oc+k * 4+1,none⟩) u).trans ar.out
    have c2:=(z.out.cell (p:=⟨bc,oc+k * 4+2,none⟩) u).trans au.out
    have c3:=(z.out.cell (p:=⟨bc,oc+k * 4+3,none⟩) u).trans az.out
    cases D:inR (m:Int) 1 120 with
    | false =>
     have Q:Hid (¬jJ n cs):=fun h=>by
      have h2:=(U.out h).len
      change 1<=ss.length/\ss.length<=120 at h2
      rw [H.out] at h2
      rw [aR.2 (by omega)] at D
      cases D
     have H2:=Hd D
     clear D Y U
     go_wp2_with fail
     refine (aj (m:Int) 1 120 _).mono ?_
     rw [H2.out]
     rintro _ w' ⟨rfl,rfl⟩
     clear c1 c2 c3 J
     go_wp2_with fail
     go_ret
     exact ⟨aO Q.out,z.out⟩
    | true =>
     have a0:=aR.1 D
     have H2:=Hd D
     clear D
     go_wp2_with fail
     refine (aj (m:Int) 1 120 _).mono ?_
     rw [H2.out]
     rintro _ w' ⟨rfl,rfl⟩
     go_wp2_with fail
     refine (uj n a b _).mono ?_
     by_cases hf:gJ n ⟨a,b⟩
     ·rw [ae hf]
      have aT:Hid ((∀p∈ss,gJ n p)→∀j,j<k+1→oz n (cs[j]?.getD Cn.zero)):=fun h=>Y.out ⟨⟨by show 1<=ss.length;rw [H.out];omega,by show ss.length<=120;rw [H.out];omega⟩,hf,h⟩
      rintro _ w4 ⟨rfl,R⟩
      have al:=Hd (aA z.out R)
      clear R c1 c2 c3 J Y hf
      go_wp2_with fail
      go_loopw [6] (fun i wr=>∃j:Nat,j<=m/\i = .int .i64 (j:Int)/\Below w.heap.size w wr/\∀q,q<j→gJ n (ss[q]?.getD bS.zero)) (fun i _=>m - (intOf i).toNat)
      ·exact ⟨0,by omega,rfl,al.out,fun q hq=>by omega⟩
      obtain ⟨j,hj,rfl,hb,B⟩:=hrel
      obtain ⟨g,ai⟩:=hd2 hb B
      clear hb B
      have J:=aK g.out u
      have c1:=(g.out.cell (p:=⟨bc,oc+k * 4+1,none⟩) u).trans ar.out
      have c2:=(g.out.cell (p:=⟨bc,oc+k * 4+2,none⟩) u).trans au.out
      have c3:=(g.out.cell (p:=⟨bc,oc+k * 4+3,none⟩) u).trans az.out
      have i2:(0:Int)<=(j:Int):=by omega
      by_cases aC:j<m
      ·have aP:=dT (by omega:j<m)
       have W:j<ss.length:=by rw [H.out];exact aC
       obtain ⟨bp,op,ax,af,d0,d1⟩:=am.out.pin (k:=j) W
       have aQ:=Hd ax
       have ap:=aK g.out af
       rw [←g.out.cell (p:=⟨bp,op+j * 2,none⟩) af] at d0
       rw [←g.out.cell (p:=⟨bp,op+j * 2+1,none⟩) af] at d1
       have Y:Hid (gJ n (ss[j]?.getD bS.zero)→∀q,q<j+1→gJ n (ss[q]?.getD bS.zero)):=fun h=>bW ai.out h
       have HN:Hid (¬gJ n (ss[j]?.getD bS.zero)→¬jJ n cs):=fun h h'=>h (by
        rw [List.getElem?_eq_getElem W]
        exact (U.out h').sinks _ (List.getElem_mem W))
       clear W ax
       obtain rfl:=aQ.out
       generalize ss[j]?.getD bS.zero=s at *
       obtain ⟨x,y⟩:=s
       simp only at d0 d1
       have i3:(j:Int)<(m:Int):=by omega
       go_wp2_with fail
       refine (uj n x y _).mono ?_
       by_cases hf:gJ n ⟨x,y⟩
       ·rw [ae hf]
        have ag:=Hd (Y.out hf)
        rintro _ w4 ⟨rfl,R⟩
        have ak:=Hd (aA g.out R)
        clear R d0 d1 Y HN hf ap c1 c2 c3 J
        go_wp2_with fail
        go_roundw
        ·exact ⟨j+1,by omega,by go_num,ak.out,ag.out⟩
        simp [intOf];omega
       rw [bJ hf]
       have Q:=Hd (HN.out hf)
       rintro _ w4 ⟨rfl,R⟩
       have ak:=Hd (aA g.out R)
       clear R d0 d1 Y HN hf ap c1 c2 c3 J
       go_wp2_with fail
       go_ret
       exact ⟨aO Q.out,ak.out⟩
      have ao:j=m:=by omega
      have aP:=dF (by omega:m<=j)
      have ag:=Hd (aT.out (fun p hp=>by
       obtain ⟨q,hq,rfl⟩:=List.getElem_of_mem hp
       have h:=ai.out q (by rw [ao,←H.out];exact hq)
       rwa [List.getElem?_eq_getElem hq] at h))
      clear ai ao
      go_wp2_with fail
      go_roundw
      ·exact ⟨k+1,by omega,by go_num,g.out,ag.out⟩
      simp [intOf];omega
     rw [bJ hf]
     have Q:Hid (¬jJ n cs):=fun h=>hf (U.out h).src
     rintro _ w4 ⟨rfl,R⟩
     have al:=Hd (aA z.out R)
     clear R c1 c2 c3 J Y hf
     go_wp2_with fail
     go_ret
     exact ⟨aO Q.out,al.out⟩
   have aD:k=cn:=by omega
   have aL:=dF (by omega:cn<=k)
   have Q:Hid (jJ n cs):=⟨hn,by rw [ad.out];exact Z,fun c hc=>by
    obtain ⟨j,hj,rfl⟩:=List.getElem_of_mem hc
    have h:=K.out j (by rw [aD,←ad.out];exact hj)
    rwa [List.getElem?_eq_getElem hj] at h⟩
   clear K aD
   go_wp2_with fail
   go_ret
   exact ⟨dU Q.out,z.out⟩
  have Q:Hid (¬jJ n cs):=fun h=>Z (by rw [←V];exact h.len)
  have aB:decide ((100:Int)<(cn:Int))=true:=decide_eq_true (by omega)
  clear V
  go_enter Tryz.func115,Tryz.ntmps115
  go_wp2_with fail
  refine (aj n 0 64 _).mono ?_
  rw [H1.out]
  rintro _ w' ⟨rfl,rfl⟩
  go_wp2_with fail
  go_ret
  exact ⟨aO Q.out,Below.refl _ _⟩
theorem Ce (d:Dev) (place:List Int) (N a b:Int) (ss:List bS) (PA SA:Option Addr) (pn pc m g:Nat) (w:World) (z:dP w PA pn place) (hs:RdC w w.heap.size (bR ss) (.slice SA m g)) (q:pn<=1048576) (B:m<=1048576) :
  Calls Tryz.prog 117 #[.agg (dv d),.slice PA pn pc,.agg #[.int .i64 N,.int .i64 a,.int .i64 b,.slice SA m g]] w fun e w'=>∃A j c,e = .returned (.slice A j c)/\(gy d place ⟨N,⟨a,b⟩,ss⟩/\m=j/\dP w' A m (dL d place ⟨N,⟨a,b⟩,ss⟩)∨¬gy d place ⟨N,⟨a,b⟩,ss⟩/\j=0)/\Below w.heap.size w w' :=
 (ui d place N a b ss PA SA pn pc m g w z hs q B).mono fun e w' ⟨h,u⟩=>by
  rcases h with ⟨h1,A,c,h2,h3⟩|⟨h1,A,c,h2⟩
  ·exact ⟨A,m,c,h2,.inl ⟨h1,rfl,h3.ints⟩,u⟩
  exact ⟨A,0,c,h2,.inr ⟨h1,rfl⟩,u⟩
theorem qw (d:Dev) (place:List Int) (cs:List Cn) (rs:List Rou) (PA CA RA:Option Addr) (pn pc cn cc rn rc:Nat) (w:World) (hp:dP w PA pn place) (hC:RdC w w.heap.size (ah cs) (.slice CA cn cc)) (hR:RdC w w.heap.size (bH rs) (.slice RA rn rc)) (bM:pn<=1048576) (I:∀c∈cs,c.sinks.length<=1048576) (U:∀r∈rs,r.nodes.length<=1048576/\r.from_.length<=1048576) :
  Calls Tryz.prog 40 #[.agg (dv d),.slice PA pn pc,.slice CA cn cc,.slice RA rn rc] w fun e w'=>e = .returned (.bool (tb (fA d place cs rs)))/\Below w.heap.size w w':=by
 obtain ⟨HP,HC,aj,ce⟩:=hd4 hp hC hC.cnN hR
 have ar:=hR.rouN
 obtain ⟨aG,bD⟩:=hd2 I U
 clear hp hC hR I U
 have bh:(place.length:Int)=(pn:Int):=by rw [HP.out.1]
 have W:=Hd (aB (Below.refl w.heap.size w) (.cells (dv d) 36))
 have aF:=Hd (aI w (.cells (dv d) 36))
 obtain ⟨x0,x1,x2,Z,V⟩:=cO (aF.out)
 by_cases G:jJ (place.length:Int) cs
 ·have bs:=Hd G
  rw [bh] at G
  by_cases h1:rn=cn
  ·subst h1
   obtain ⟨cn,rfl⟩:∃x,x=rn:=⟨rn,rfl⟩
   have a8:=Hd ar
   have bY:cn<=100:=by rw [←aj.out];exact G.len
   have d1:((cn:Int) != (cn:Int))=false:=by simp
   clear ar
   go_enter Tryz.func40,Tryz.ntmps40
   go_upto_region 1 with fail
   generalize w.alloc (.cells (dv d) 36)=W9 at *
   clear x0 x1 x2 Z V
   go_wp2_with fail
   refine (pg (pn:Int) cs CA cn cc _ (HC.out.below W.out) aG.out).mono ?_
   rw [ae G]
   rintro _ wq ⟨rfl,u⟩
   have aH:=Hd (aD u aF.out)
   have HD:=Hd (aA W.out u)
   clear u
   obtain ⟨NR,hN⟩:∃N:Nat,ik d=(N:Int):=by
    cases hd:dR d with
    | true=>have:=fZ hd;exact ⟨(ik d).toNat,by unfold ik;rw [if_pos hd];omega⟩
    | false=>exact ⟨0,by unfold ik;rw [hd];rfl⟩
   have cN:NR<=828:=by
    have h:=hN
    unfold ik at h
    split at h
    ·rename_i b7
     have:=fZ b7
     omega
    omega
   have aX:=Hd hN
   clear hN
   obtain ⟨x0,x1,x2,Z,V⟩:=cO (aH.out)
   go_wp2_with fail
   refine (gP d _).mono ?_
   rw [aX.out]
   rintro _ W0 ⟨rfl,bz⟩
   have b8:=Hd (aD bz aH.out)
   have b3:=Hd (aA HD.out bz)
   clear bz x0 x1 x2 Z V HD
   have HD:=b3
   have cp:=ni NR (by omega)
   have b2:=Hd ((aJ.refl W0).pushRowB NR)
   go_wp2_with fail
   clear cp
   go_loopw [10] (fun i wr=>∃k:Nat,k<=cn/\i = .int .i64 (k:Int)/\aJ W0 wr [rq W0.heap.size NR ((rs.take k).flatMap Rou.nodes)]/\(∀j,j<k→gy d place (cs[j]?.getD Cn.zero)/\dB d (fQ d place (cs[j]?.getD Cn.zero)) (dL d place (cs[j]?.getD Cn.zero)) (rs[j]?.getD Rou.zero))/\((rs.take k).flatMap Rou.nodes).Nodup) (fun i _=>cn - (intOf i).toNat)
   ·exact ⟨0,by omega,rfl,b2.out,fun j hj=>by omega,by simp⟩
   obtain ⟨k,hk,rfl,hs,aV,ao⟩:=hrel
   obtain ⟨HS,ak,a2⟩:=hd3 hs aV ao
   have g:=Hd (aA HD.out hs.bel)
   have bA:=Hd (aD hs.bel b8.out)
   clear hs aV ao
   by_cases bN:k<cn
   ·have b1:=dT (by omega:k<cn)
    have R:k<cs.length:=by rw [aj.out];exact bN
    have ax:k<rs.length:=by rw [a8.out];exact bN
    obtain ⟨bc,oc,SA,m,mc,bm,I,c0,c1,c2,c3,bE⟩:=HC.out.cn (k:=k) R
    obtain ⟨br,ob,NA,nn,nc,FA,fn,fc,bK,U,e0,e1,a4,a1⟩:=ce.out.rou (k:=k) ax
    obtain ⟨ck,co⟩:=hd2 bm bK
    have bO:Hid (∀v,Below w.heap.size w v→v.cell? ⟨br,ob+k * 2,none⟩=some (.slice NA nn nc)):=fun v D=>(D.cell (p:=⟨br,ob+k * 2,none⟩) U).trans e0
    have b9:Hid (∀v,Below w.heap.size w v→v.cell? ⟨br,ob+k * 2+1,none⟩=some (.slice FA fn fc)):=fun v D=>(D.cell (p:=⟨br,ob+k * 2+1,none⟩) U).trans e1
    have G:oz (place.length:Int) (cs[k]?.getD Cn.zero):=by rw [List.getElem?_eq_getElem R];exact bs.out.fit _ (List.getElem_mem R)
    have hg:gy d place (cs[k]?.getD Cn.zero)/\dB d (fQ d place (cs[k]?.getD Cn.zero)) (dL d place (cs[k]?.getD Cn.zero)) (rs[k]?.getD Rou.zero)→∀j,j<k+1→gy d place (cs[j]?.getD Cn.zero)/\dB d (fQ d place (cs[j]?.getD Cn.zero)) (dL d place (cs[j]?.getD Cn.zero)) (rs[j]?.getD Rou.zero):=fun h=>bW ak.out h
    have bv:fA d place cs rs→gy d place (cs[k]?.getD Cn.zero)/\dB d (fQ d place (cs[k]?.getD Cn.zero)) (dL d place (cs[k]?.getD Cn.zero)) (rs[k]?.getD Rou.zero):=fun h=>h.fit k R
    have aR:=aG.out _ (List.getElem_mem R)
    rw [show cs[k]=cs[k]?.getD Cn.zero by rw [List.getElem?_eq_getElem R];rfl] at aR
    have J:=bD.out _ (List.getElem_mem ax)
    rw [show rs[k]=rs[k]?.getD Rou.zero by rw [List.getElem?_eq_getElem ax];rfl] at J
    have a3:(rs.take (k+1)).flatMap Rou.nodes=(rs.take k).flatMap Rou.nodes++(rs[k]?.getD Rou.zero).nodes:=by
     rw [bU (z:=Rou.zero) ax,List.flatMap_append,List.flatMap_singleton]
    have bt:fA d place cs rs→((rs.take k).flatMap Rou.nodes++(rs[k]?.getD Rou.zero).nodes).Nodup:=fun h=>by
     have h1:=h.once
     rw [←List.take_append_drop (k+1) rs,List.flatMap_append,a3] at h1
     exact (List.nodup_append.1 h1).1
    obtain ⟨HG,ay,a7,bC⟩:=hd4 hg bv a3 bt
    clear R ax hg bv bm bK a3 bt e0 e1
    obtain rfl:=ck.out
    obtain rfl:=co.out
    generalize cs[k]?.getD Cn.zero=cx at *
    generalize rs[k]?.getD Rou.zero=rx at *
    obtain ⟨N,⟨a,b⟩,ss⟩:=cx
    obtain ⟨Q,fs⟩:=rx
    simp only at c0 c1 c2 c3 aR J a7 bC a4 a1
    have bx:=Hd (fun (v:World) (D:Below w.heap.size w v)=>(D.cell (p:=⟨bc,oc+k * 4,none⟩) I).trans c0)
    have bj:=Hd (fun (v:World) (D:Below w.heap.size w v)=>(D.cell (p:=⟨bc,oc+k * 4+1,none⟩) I).trans c1)
    have bk:=Hd (fun (v:World) (D:Below w.heap.size w v)=>(D.cell (p:=⟨bc,oc+k * 4+2,none⟩) I).trans c2)
    have bw:=Hd (fun (v:World) (D:Below w.heap.size w v)=>(D.cell (p:=⟨bc,oc+k * 4+3,none⟩) I).trans c3)
    clear c0 c1 c2 c3
    have be:=Hd (show RdC w w.heap.size (bR ss) (.slice SA m mc) from bE)
    have bq:Hid (ss.length=m):=be.out.pinN
    have hm:m<=1048576:=by rw [←bq.out];exact aR
    have cR:1<=m:=by have h1:=G.len.1;rw [show (⟨N,⟨a,b⟩,ss⟩:Cn).sinks=ss from rfl,bq.out] at h1;exact h1
    have HN:=Hd (a4.ints)
    have HF:=Hd (a1.ints)
    have cm:nn<=1048576:=by rw [←HN.out.1];exact J.1
    have ci:fn<=1048576:=by rw [←HF.out.1];exact J.2
    obtain ⟨i0,i1⟩:=ib (by omega:k<cn)
    clear bE a4 a1 aR J G
    have c0:=bx.out _ g.out
    have c1:=bj.out _ g.out
    have c2:=bk.out _ g.out
    have c3:=bw.out _ g.out
    have H:=aK g.out I
    obtain ⟨x0,x1,x2,Z,V⟩:=cO (bA.out)
    have cv:=Hd (fun (v:World) (D:Below wr.heap.size wr v)=>Ce d place N a b ss PA SA pn pc m mc v (HP.out.below (aA g.out D)) (be.out.below (aA g.out D)) bM hm)
    have au:Hid (∀w',Below wr.heap.size wr w'→(KD w' w.heap.size d (w'.cell? ⟨bc,oc+k * 4,none⟩=some (.int .i64 N)/\w'.cell? ⟨bc,oc+k * 4+1,none⟩=some (.int .i64 a)/\w'.cell? ⟨bc,oc+k * 4+2,none⟩=some (.int .i64 b)/\w'.cell? ⟨bc,oc+k * 4+3,none⟩=some (.slice SA m mc)))):=fun v D=>⟨(D.cell (p:=⟨w.heap.size,0,none⟩) V).trans x0,(D.cell (p:=⟨w.heap.size,1,none⟩) V).trans x1,(D.cell (p:=⟨w.heap.size,2,none⟩) V).trans x2,(D.cell (p:=⟨w.heap.size,3,none⟩) V).trans Z,(D.cell (p:=⟨bc,oc+k * 4,none⟩) H).trans c0,(D.cell (p:=⟨bc,oc+k * 4+1,none⟩) H).trans c1,(D.cell (p:=⟨bc,oc+k * 4+2,none⟩) H).trans c2,(D.cell (p:=⟨bc,oc+k * 4+3,none⟩) H).trans c3⟩
    have u:=(Below.refl wr.heap.size wr).drew
    go_upto_region 7 with fail
    go_region_held3 (fun w'=>KD w' w.heap.size d (w'.cell? ⟨bc,oc+k * 4,none⟩=some (.int .i64 N)/\w'.cell? ⟨bc,oc+k * 4+1,none⟩=some (.int .i64 a)/\w'.cell? ⟨bc,oc+k * 4+2,none⟩=some (.int .i64 b)/\w'.cell? ⟨bc,oc+k * 4+3,none⟩=some (.slice SA m mc)))
     (first|exact au.out _ u)
     ((first
      | (go_at_call 117;(with_reducible refine (cv.out _ u).mono ?_);rintro e5 w5 ⟨A,m',c,rfl,o5,b5⟩;have O5:=Hd o5;replace u:=aA u b5;clear b5 o5)))
    obtain ⟨w7,rfl⟩:∃x,x=w5:=⟨w5,rfl⟩
    have aE:=Hd (HS.out.below u)
    have cj:=Hd (aD u bA.out)
    have B:=Hd (aA HD.out aE.out.bel)
    clear x0 x1 x2 Z V c0 c1 c2 c3 H u au
    have c0:=bx.out _ B.out
    have c1:=bj.out _ B.out
    have c2:=bk.out _ B.out
    have c3:=bw.out _ B.out
    have H:=aK B.out I
    have d0:=bO.out _ B.out
    have d1:=b9.out _ B.out
    have aM:=aK B.out U
    obtain ⟨x0,x1,x2,Z,V⟩:=cO (cj.out)
    rcases O5.out with ⟨al,rfl,o7⟩|⟨al,rfl⟩
    ·obtain ⟨O7,cr⟩:=hd2 o7 al
     clear o7 al
     have a5:Hid (fA d place cs rs→dB d (fQ d place ⟨N,⟨a,b⟩,ss⟩) (dL d place ⟨N,⟨a,b⟩,ss⟩) ⟨Q,fs⟩):=fun h=>(ay.out h).2
     have dm:((m:Int)==0)=false:=by simp;omega
     have bB:=(fun (x:Sub w7)=>uG d place N a b ss PA SA pn pc m mc x.v (HP.out.below (aA B.out x.h)) bM)
     have bI:=Hd bB
     clear bB
     have cf:Hid (∀s∈dL d place ⟨N,⟨a,b⟩,ss⟩,mP s):=fun s hs=>by
      unfold dL at hs
      obtain ⟨p,_,rfl⟩:=List.mem_map.1 hs
      exact ES d place p
     have Y:=(fun (x:Sub w7)=>yM d (fQ d place ⟨N,⟨a,b⟩,ss⟩) (dL d place ⟨N,⟨a,b⟩,ss⟩) ⟨Q,fs⟩ A NA FA m c nn nc fn fc x.v (O7.out.below x.h) (HN.out.below (aA B.out x.h)) (HF.out.below (aA B.out x.h)) hm cm ci cf.out)
     by_cases hf:dB d (fQ d place ⟨N,⟨a,b⟩,ss⟩) (dL d place ⟨N,⟨a,b⟩,ss⟩) ⟨Q,fs⟩
     ·rw [ae hf] at Y
      have bb:=Hd Y
      have cb:=Hd (HG.out ⟨cr.out,hf⟩)
      have cd:Hid (∀s∈Q,0<=s/\s<(NR:Int)):=fun s hs=>by
       have h1:=hf.node s hs
       unfold bQ at h1
       rw [Bool.and_eq_true] at h1
       have h2:=mq.1 h1.1
       rw [aX.out] at h2
       exact h2
      clear Y HG ay a5 hf
      go_upto_region 8 with fail
      have K:=aY w7
      have ap:=aP w7
      refine wpB w7 ?_
      repeat (go_big_quiet_step ((first
       | (go_at_call 119;with_reducible exact aN (bI.out _))
       | (go_at_call 118;with_reducible exact aN (bb.out _)))))
      refine wpQuiet_nil ?_
      rintro wq ⟨⟨w5,u⟩,hw⟩
      replace hw:wq=w5:=hw
      subst hw
      clear K ap
      have aq:=Hd (aE.out.below u)
      clear u x0 x1 x2 Z V c0 c1 c2 c3 H d0 d1 aM
      go_wp2_with fail
      go_loopw [12] (fun i wr=>∃q:Nat,q<=nn/\i = .int .i64 (q:Int)/\aJ W0 wr [rq W0.heap.size NR ((rs.take k).flatMap Rou.nodes++Q.take q)]/\((rs.take k).flatMap Rou.nodes++Q.take q).Nodup) (fun i _=>nn - (intOf i).toNat)
      ·exact ⟨0,by omega,rfl,by rw [List.take_zero,List.append_nil];exact aq.out,by rw [List.take_zero,List.append_nil];exact a2.out⟩
      obtain ⟨q,hq,rfl,hs,ao⟩:=hrel
      obtain ⟨HS,a0⟩:=hd2 hs ao
      have g:=Hd (aA HD.out hs.bel)
      clear hs ao
      have d0:=bO.out _ g.out
      have aM:=aK g.out U
      by_cases aW:q<nn
      ·have bZ:=dT (by omega:q<nn)
       have aL:q<Q.length:=by rw [HN.out.1];exact aW
       obtain ⟨bn,ch,bu,bF,bL⟩:=HN.out.2 (by omega)
       have cu:=Hd bu
       have cq:=(g.out.cell (p:=⟨bn,ch+q,none⟩) bF).trans (bL q aW)
       have cS:=aK g.out bF
       have hR:=cd.out _ (List.getElem_mem aL)
       rw [show Q[q]=Q[q]?.getD 0 by rw [List.getElem?_eq_getElem aL];rfl] at hR
       have a6:=Hd (bU (z:=0) aL)
       clear bL aL bu
       obtain rfl:=cu.out
       generalize Q[q]?.getD 0=n at *
       obtain ⟨X,rfl⟩:∃X:Nat,n=(X:Int):=⟨n.toNat,by omega⟩
       have cl:X<NR:=by omega
       obtain ⟨cT,cL⟩:=ib (by omega:X<NR)
       obtain ⟨cM,cV⟩:=ib (by omega:q<nn)
       obtain ⟨q1,q2,⟨cX,q3⟩,q4⟩:=HS.out.truth 0 (k:=X) rfl cl
       have b4:=Hd q4
       clear q4 hR
       by_cases hm:(X:Int)∈(rs.take k).flatMap Rou.nodes++Q.take q
       ·rw [decide_eq_true hm] at q1
        have HR:Hid (¬fA d place cs rs):=fun h=>by
         have h1:=bC.out h
         have h2:(((rs.take k).flatMap Rou.nodes++Q.take q)++[(X:Int)]).Nodup:=by
          have h3:(((rs.take k).flatMap Rou.nodes++Q.take (q+1))++Q.drop (q+1)).Nodup:=by
           rw [List.append_assoc,List.take_append_drop]
           exact h1
          have h4:=(List.nodup_append.1 h3).1
          rw [a6.out,←List.append_assoc] at h4
          exact h4
         exact (dZ.1 h2).2 hm
        clear hm
        go_wp2_with fail
        go_ret
        exact ⟨aO HR.out,g.out⟩
       rw [decide_eq_false hm] at q1
       have HM:=Hd hm
       clear hm
       go_wp2_with fail
       go_roundw
       ·exact ⟨q+1,by omega,by go_num,by rw [a6.out,←List.append_assoc];exact b4.out,by rw [a6.out,←List.append_assoc,dZ];exact ⟨a0.out,HM.out⟩⟩
       simp [intOf];omega
      have bo:q=nn:=by omega
      have bZ:=dF (by omega:nn<=q)
      have b6:Hid (Q.take q=Q):=by show _=_;rw [bo];exact List.take_of_length_le (by rw [HN.out.1];exact Nat.le_refl _)
      rw [b6.out] at HS a0
      clear bo
      go_wp2_with fail
      go_roundw
      ·exact ⟨k+1,by omega,by go_num,by rw [a7.out];exact HS.out,cb.out,by rw [a7.out];exact a0.out⟩
      simp [intOf];omega
     rw [bJ hf] at Y
     have bb:=Hd Y
     have HR:Hid (¬fA d place cs rs):=fun h=>hf (a5.out h)
     clear Y HG ay a5 hf
     go_upto_region 8 with fail
     have K:=aY w7
     have ap:=aP w7
     refine wpB w7 ?_
     repeat (go_big_quiet_step ((first
      | (go_at_call 119;with_reducible exact aN (bI.out _))
      | (go_at_call 118;with_reducible exact aN (bb.out _)))))
     refine wpQuiet_nil ?_
     rintro wq ⟨⟨w5,u⟩,hw⟩
     replace hw:wq=w5:=hw
     subst hw
     clear K ap
     have aq:=Hd (aE.out.below u)
     clear u x0 x1 x2 Z V c0 c1 c2 c3 H d0 d1 aM
     have aZ:=Hd (aA HD.out aq.out.bel)
     go_wp2_with fail
     go_ret
     exact ⟨aO HR.out,aZ.out⟩
    have HR:Hid (¬fA d place cs rs):=fun h=>al (ay.out h).1
    clear HG ay al
    go_upto_region 8 with fail
    have K:=aY w7
    have ap:=aP w7
    refine wpB w7 ?_
    repeat (go_big_quiet_step ((fail)))
    refine wpQuiet_nil ?_
    rintro wq ⟨⟨w5,u⟩,hw⟩
    replace hw:wq=w5:=hw
    subst hw
    clear K ap
    have aq:=Hd (aE.out.below u)
    clear u x0 x1 x2 Z V c0 c1 c2 c3 H d0 d1 aM
    have aZ:=Hd (aA HD.out aq.out.bel)
    go_wp2_with fail
    go_ret
    exact ⟨aO HR.out,aZ.out⟩
   have a9:k=cn:=by omega
   have b1:=dF (by omega:cn<=k)
   have HR:Hid (fA d place cs rs):=by
    refine ⟨bs.out,by rw [a8.out,aj.out],fun j hj=>ak.out j (by rw [a9,←aj.out];exact hj),?_⟩
    have h:=a2.out
    rwa [List.take_of_length_le (by rw [a8.out,a9];exact Nat.le_refl _)] at h
   clear ak a2 a9
   go_wp2_with fail
   go_ret
   exact ⟨dU HR.out,g.out⟩
  have HR:Hid (¬fA d place cs rs):=fun h=>h1 (by rw [←ar,h.len,aj.out])
  have d1:((rn:Int) != (cn:Int))=true:=by simp;omega
  clear h1 ar
  go_enter Tryz.func40,Tryz.ntmps40
  go_upto_region 1 with fail
  generalize w.alloc (.cells (dv d) 36)=W9 at *
  clear x0 x1 x2 Z V
  go_wp2_with fail
  refine (pg (pn:Int) cs CA cn cc _ (HC.out.below W.out) aG.out).mono ?_
  rw [ae G]
  rintro _ wq ⟨rfl,u⟩
  have aH:=Hd (aD u aF.out)
  have HD:=Hd (aA W.out u)
  clear u
  go_wp2_with fail
  go_ret
  exact ⟨aO HR.out,HD.out⟩
 have HR:Hid (¬fA d place cs rs):=fun h=>G h.conns
 rw [bh] at G
 clear ar
 go_enter Tryz.func40,Tryz.ntmps40
 go_upto_region 1 with fail
 generalize w.alloc (.cells (dv d) 36)=W9 at *
 clear x0 x1 x2 Z V
 go_wp2_with fail
 refine (pg (pn:Int) cs CA cn cc _ (HC.out.below W.out) aG.out).mono ?_
 rw [bJ G]
 rintro _ wq ⟨rfl,u⟩
 have aH:=Hd (aD u aF.out)
 have HD:=Hd (aA W.out u)
 clear u
 go_wp2_with fail
 go_ret
 exact ⟨aO HR.out,HD.out⟩
theorem mU (l:ag) (SA LA OA:Option Addr) (sn sc ln lc on oc:Nat) (bs:List Blk) (BA:Option Addr) (bn bc:Nat) (w:World) (h:fU w l SA LA OA sn sc ln lc on oc) (hB:RdC w w.heap.size (aa bs) (.slice BA bn bc)) (hp:fq l bs) :
  Calls Tryz.prog 37 #[jE l SA LA OA sn sc ln lc on oc,.slice BA bn bc] w fun e w'=>∃A n c,e = .returned (.slice A n c)/\gI w.heap.size w'.heap.size w' (ah (eY l bs)) (.slice A n c)/\Below w.heap.size w w':=by
 have z:=Hd (aB (Below.refl w.heap.size w) (.cells (ai l SA LA OA sn sc ln lc on oc) 41))
 have D:=Hd (aI w (.cells (ai l SA LA OA sn sc ln lc on oc) 41))
 have bf:=hB.blkN
 obtain ⟨af,HB,HN,HP,HF,aq⟩:=hd6 bf hB h hp hp.net hp.fit
 have bT:=hp.len
 rw [bf] at bT
 have dw:Hid (∀i,i<=bn→(kw l bs i).length<=2 * i):=fun i hi=>qo aq.out (by rw [af.out];exact hi)
 have cN:Hid (∀b∈bs,b.les.length<=1048576):=fun b hb=>by have:=lT (aq.out b hb);omega
 clear hB bf h hp
 obtain ⟨cy,bE,b7,bY,b0⟩:=info_parts xG
 obtain ⟨cF,bM,bZ,bK,bx⟩:=info_parts zu
 obtain ⟨cR,bv,bG,bB,bL⟩:=info_parts xH
 have aO:=Hd (And.intro bE (And.intro b7 (And.intro bY b0)))
 have aU:=Hd (And.intro bM (And.intro bZ (And.intro bK bx)))
 have aM:=Hd (And.intro bv (And.intro bG (And.intro bB bL)))
 clear bE b7 bY b0 bM bZ bK bx bv bG bB bL
 go_enter Tryz.func37,Tryz.ntmps37
 go_upto_region 1 with fail
 generalize w.alloc (.cells (ai l SA LA OA sn sc ln lc on oc) 41)=Y at *
 have a6:=Hd ((aJ.refl Y).pushNew 158 4)
 obtain ⟨x0,x1,x2,x3,lx⟩:=cO D.out
 go_wp2_with fail
 refine (kS l SA LA OA sn sc ln lc on oc bs BA bn bc _ (HN.out.below (aA z.out a6.out.bel)) (HB.out.below (aA z.out a6.out.bel)) cN.out).mono ?_
 rw [ae HP.out]
 rintro _ w1 ⟨rfl,b1⟩
 have cH:=Hd (a6.out.below b1)
 have cW:=Hd (cH.out.pushNew 26 1)
 clear b1 x0 x1 x2 x3 lx
 go_wp2_with fail
 go_loopw [6,7] (fun v i wr=>∃(k:Nat) (A:Option Addr) (c:Nat),k<=bn/\i = .int .i64 (k:Int)/\v = .slice A k c/\aJ Y wr [.cel (ah []) (.slice (some ⟨Y.heap.size,0,none⟩) 0 0),.cel (vV ((bs.take k).map (jA l))) (.slice A k c)]) (fun _ i _=>bn - (intOf i).toNat)
 ·exact ⟨0,_,_,by omega,rfl,rfl,cW.out⟩
 obtain ⟨k,A1,cA,hk,rfl,rfl,hs⟩:=hrel
 have W:=Hd hs
 clear hs
 by_cases bk:k<bn
 ·have a4:=dT (by omega:k<bn)
  have I:k<bs.length:=by rw [af.out];exact bk
  obtain ⟨U,R,EA,en,ec,ax,Q,c0,c1,c2,r2⟩:=HB.out.blk (k:=k) I
  have a7:=Hd ax
  have H:=aq.out _ (List.getElem_mem I)
  rw [show bs[k]=bs[k]?.getD Blk.zero by rw [List.getElem?_eq_getElem I];rfl] at H
  have J:=Hd (show (bs.take (k+1)).map (jA l)=(bs.take k).map (jA l)++[jA l (bs[k]?.getD Blk.zero)] from by rw [mr I,List.map_append];rfl)
  clear I ax
  generalize bs[k]?.getD Blk.zero=b at *
  obtain ⟨kd,it,es⟩:=b
  simp only at c0 c1
  have HE:=Hd (show RdC w w.heap.size (cZ es) (.slice EA en ec) from r2)
  have aw:es.length=en:=HE.out.esN
  have cU:en<=2:=by rw [←aw];exact lT H
  have a8:=Hd H.1
  obtain rfl:=a7.out
  obtain ⟨i0,i1⟩:=ib (by omega:k<bn)
  have B:Hid (∀w',Below Y.heap.size Y w'→(K4 w' w.heap.size (.int .i64 l.inputs) (.slice SA sn sc) (.slice LA ln lc) (.slice OA on oc) (w'.cell? ⟨U,R+k * 3,none⟩=some (.int .i64 kd)/\w'.cell? ⟨U,R+k * 3+1,none⟩=some (.int .i64 it)/\w'.cell? ⟨U,R+k * 3+2,none⟩=some (.slice EA en ec)))):=fun v G=>⟨aF (k:=0) (aD G D.out) rfl,aF (k:=1) (aD G D.out) rfl,aF (k:=2) (aD G D.out) rfl,aF (k:=3) (aD G D.out) rfl,((aA z.out G).cell (p:=⟨U,R+k * 3,none⟩) Q).trans c0,((aA z.out G).cell (p:=⟨U,R+k * 3+1,none⟩) Q).trans c1,((aA z.out G).cell (p:=⟨U,R+k * 3+2,none⟩) Q).trans c2⟩
  clear r2 aw H c0 c1 c2
  obtain ⟨x0,x1,x2,x3,c0,c1,c2⟩:=B.out _ W.out.bel
  have lx:=aC (aD W.out.bel D.out)
  have bz:=aK (aA z.out W.out.bel) Q
  have hS:=Hd W.out.drew
  have V:=hS.out.bel
  have be:=Hd (fun (v:World) (G:Below Y.heap.size Y v)=>wI l SA LA OA sn sc ln lc on oc kd it es EA en ec v (HN.out.below (aA z.out G)) HF.out (HE.out.below (aA z.out G)) a8.out (by omega))
  go_upto_region 8 with fail
  go_region_held3 (fun w'=>K4 w' w.heap.size (.int .i64 l.inputs) (.slice SA sn sc) (.slice LA ln lc) (.slice OA on oc) (w'.cell? ⟨U,R+k * 3,none⟩=some (.int .i64 kd)/\w'.cell? ⟨U,R+k * 3+1,none⟩=some (.int .i64 it)/\w'.cell? ⟨U,R+k * 3+2,none⟩=some (.slice EA en ec)))
   (first|with_reducible exact B.out _ V|with_reducible exact B.out _ (aB V _))
   ((first
    | (go_at_call 111;(with_reducible refine (be.out _ V).mono ?_);rintro e5 w5 ⟨PA,pn,pc,rfl,op,b5⟩;replace V:=aA V b5;have cx:=Hd (sw hS.out b5 op);clear b5 op)
    | (refine wG rfl _ _ 50 26 (by rfl) cy _ 1 24 Tryz.underlying50 aO.out.1 aO.out.2.1 aO.out.2.2.1 aO.out.2.2.2 rfl (by decide) (by decide) _ (cx.out.alloc (.cells #[.slice PA pn pc] 26)) 2 0 (by decide) k cA _ A1 (((bs.take k).map (jA l)).map aH) _ #[.slice PA pn pc] _ rfl rfl (by rfl) (by rfl) (aI _ _) rfl (by omega) ?_;intro g9 aN w9 S9 ar;have cY:=Hd S9.tail;replace V:=S9.tail.bel;clear S9 ar)))
  go_wp2_with fail
  go_roundw
  ·exact ⟨k+1,_,_,by omega,by go_num,rfl,by rw [J.out,xI];exact cY.out⟩
  simp [intOf];omega
 have aV:k=bn:=by omega
 have a4:=dF (by omega:bn<=k)
 have J:Hid (bs.take k=bs):=by show _=_;rw [aV];exact List.take_of_length_le (by rw [af.out];exact Nat.le_refl _)
 rw [J.out] at W
 obtain ⟨u,ay⟩:∃u,bs.map (jA l)=u:=⟨_,rfl⟩
 rw [ay] at W
 have ct:=Hd ay
 have bD:Hid (u.length=bn):=by show _=_;rw [←ay,List.length_map,af.out]
 have c5:Hid (∀ps∈u,ps.length<=5):=fun ps hp=>by
  rw [←ay] at hp
  obtain ⟨b,hb,rfl⟩:=List.mem_map.1 hp
  exact yl HF.out (aq.out b hb)
 subst aV
 clear ay J
 have cl:=W
 clear W
 obtain ⟨PA,rfl⟩:∃y,y=A1:=⟨A1,rfl⟩
 obtain ⟨pc,rfl⟩:∃y,y=cA:=⟨cA,rfl⟩
 obtain ⟨bn,rfl⟩:∃y,y=k:=⟨k,rfl⟩
 go_wp2_with fail
 go_loopw [5,8] (fun v i wr=>∃(k:Nat) (A:Option Addr) (n c:Nat),k<=bn/\i = .int .i64 (k:Int)/\v = .slice A n c/\n<=2 * k/\aJ Y wr [.cel (ah (kw l bs k)) (.slice A n c),.cel (vV u) (.slice PA bn pc)]) (fun _ i _=>bn - (intOf i).toNat)
 ·exact ⟨0,_,0,_,by omega,rfl,rfl,by omega,cl.out⟩
 obtain ⟨k,A1,n1,cA,hk,rfl,rfl,dd,hs⟩:=hrel
 have W:=Hd hs
 clear hs
 by_cases bk:k<bn
 ·have a4:=dT (by omega:k<bn)
  have I:k<bs.length:=by rw [af.out];exact bk
  obtain ⟨U,R,EA,en,ec,ax,Q,c0,c1,c2,r2⟩:=HB.out.blk (k:=k) I
  have a7:=Hd ax
  have H:=aq.out _ (List.getElem_mem I)
  rw [show bs[k]=bs[k]?.getD Blk.zero by rw [List.getElem?_eq_getElem I];rfl] at H
  have a1:=uY H
  have J:=Hd (qQ l bs k)
  rw [ct.out] at J
  clear I ax
  generalize bs[k]?.getD Blk.zero=b at *
  obtain ⟨kd,it,es⟩:=b
  simp only at c0 c1
  have HE:=Hd (show RdC w w.heap.size (cZ es) (.slice EA en ec) from r2)
  have aw:es.length=en:=HE.out.esN
  have cU:en<=2:=by rw [←aw];exact lT H
  have a8:=Hd H.1
  obtain rfl:=a7.out
  obtain ⟨i0,i1⟩:=ib (by omega:k<bn)
  have B:Hid (∀w',Below Y.heap.size Y w'→(K4 w' w.heap.size (.int .i64 l.inputs) (.slice SA sn sc) (.slice LA ln lc) (.slice OA on oc) (w'.cell? ⟨U,R+k * 3,none⟩=some (.int .i64 kd)/\w'.cell? ⟨U,R+k * 3+1,none⟩=some (.int .i64 it)/\w'.cell? ⟨U,R+k * 3+2,none⟩=some (.slice EA en ec)))):=fun v G=>⟨aF (k:=0) (aD G D.out) rfl,aF (k:=1) (aD G D.out) rfl,aF (k:=2) (aD G D.out) rfl,aF (k:=3) (aD G D.out) rfl,((aA z.out G).cell (p:=⟨U,R+k * 3,none⟩) Q).trans c0,((aA z.out G).cell (p:=⟨U,R+k * 3+1,none⟩) Q).trans c1,((aA z.out G).cell (p:=⟨U,R+k * 3+2,none⟩) Q).trans c2⟩
  clear r2 aw H c0 c1 c2
  obtain ⟨x0,x1,x2,x3,c0,c1,c2⟩:=B.out _ W.out.bel
  have lx:=aC (aD W.out.bel D.out)
  have bz:=aK (aA z.out W.out.bel) Q
  have hS:=Hd W.out.drew
  have V:=hS.out.bel
  have be:=Hd (fun (v:World) (G:Below Y.heap.size Y v)=>wH l SA LA OA sn sc ln lc on oc kd it es EA en ec v (HN.out.below (aA z.out G)) HF.out (HE.out.below (aA z.out G)) a8.out (by omega))
  go_upto_region 12 with fail
  go_region_held3 (fun w'=>K4 w' w.heap.size (.int .i64 l.inputs) (.slice SA sn sc) (.slice LA ln lc) (.slice OA on oc) (w'.cell? ⟨U,R+k * 3,none⟩=some (.int .i64 kd)/\w'.cell? ⟨U,R+k * 3+1,none⟩=some (.int .i64 it)/\w'.cell? ⟨U,R+k * 3+2,none⟩=some (.slice EA en ec)))
   (first|with_reducible exact B.out _ V)
   ((first
    | (go_at_call 112;(with_reducible refine (be.out _ V).mono ?_);rintro e5 w5 ⟨UA,un,uc,rfl,ou,b5⟩;replace V:=aA V b5;have bA:=Hd ou.len;have bF:=Hd (hS.out.pushOwn b5 ou);clear b5 ou)))
  have dn:un<=2:=by rw [←bA.out];exact a1
  clear a1 bA hS V B x0 x1 x2 x3 lx c0 c1 c2 bz
  generalize kD l ⟨kd,it,es⟩=Z at *
  generalize kw l bs k=CT at *
  have cr:=Hd (bF.out.ints 2 rfl).1
  rw [cr.out] at J
  go_wp2_with fail
  go_loopw [5,10] (fun v i wr=>∃(p:Nat) (A:Option Addr) (n c:Nat),p<=un/\i = .int .i64 (p:Int)/\v = .slice A n c/\n<=2 * k+p/\aJ Y wr [.cel (ah (CT++iO u k Z p)) (.slice A n c),.cel (vV u) (.slice PA bn pc),.cel (aH Z) (.slice UA un uc)]) (fun _ i _=>un - (intOf i).toNat)
  ·exact ⟨0,_,_,_,by omega,rfl,rfl,by omega,by simpa [iO] using bF.out⟩
  obtain ⟨p,A2,n2,cB,hp,rfl,rfl,cn,hs⟩:=hrel
  have aR:=Hd hs
  clear hs
  by_cases aZ:p<un
  ·have cV:=dT (by omega:p<un)
   obtain ⟨bu,ou,bO,cG,ap⟩:=(aR.out.ints 2 rfl).2 (by omega)
   have cM:=Hd bO
   have cu:=ap p aZ
   have a9:=Hd (rQ u k Z p)
   obtain ⟨N,hN⟩:∃N,Z[p]?.getD 0=N:=⟨_,rfl⟩
   rw [hN] at cu a9
   have cX:=Hd hN
   obtain rfl:=cM.out
   clear ap bO hN
   obtain ⟨i2,i3⟩:=ib (by omega:p<un)
   have bU:Hid (aJ Y (wr.alloc (.cells #[.int .i64 N,.int .i64 (k:Int),.int .i64 (p:Int),.slice none 0 0] 158)) [.cel (ah (CT++iO u k Z p)) (.slice A2 n2 cB),.cel (vV u) (.slice PA bn pc),.cel (aH Z) (.slice (some ⟨bu,ou,none⟩) un uc),.blk wr.heap.size #[.int .i64 N,.int .i64 (k:Int),.int .i64 (p:Int),.slice none 0 0] 158,.cel (bR (gu u N 0)) (.slice none 0 0)]):=((aR.out.pushBlk _ _).pushNil 100 2)
   obtain ⟨gc,aG⟩:∃g,wr.heap.size=g:=⟨_,rfl⟩
   go_upto_region 17 with fail
   rw [aG] at bU
   (try rw [aG])
   have du:=Hd aG
   clear aG cu cG
   generalize wr.alloc (.cells #[.int .i64 N,.int .i64 (k:Int),.int .i64 (p:Int),.slice none 0 0] 158)=W6 at *
   go_wp2_with fail
   go_loopw [12] (fun i wr=>∃(j:Nat) (SK:Option Addr) (m c:Nat),j<=bn/\i = .int .i64 (j:Int)/\m<=5 * j/\aJ Y wr [.cel (ah (CT++iO u k Z p)) (.slice A2 n2 cB),.cel (vV u) (.slice PA bn pc),.cel (aH Z) (.slice (some ⟨bu,ou,none⟩) un uc),.blk gc #[.int .i64 N,.int .i64 (k:Int),.int .i64 (p:Int),.slice SK m c] 158,.cel (bR (gu u N j)) (.slice SK m c)]) (fun i _=>bn - (intOf i).toNat)
   ·exact ⟨0,none,0,0,by omega,rfl,by omega,bU.out⟩
   obtain ⟨j,SK,m,mc,hj,rfl,hm,hs⟩:=hrel
   have ak:=Hd hs
   clear hs
   by_cases b4:j<bn
   ·have cI:=dT (by omega:j<bn)
    have aL:j<u.length:=by rw [bD.out];exact b4
    have h5:=c5.out _ (List.getElem_mem aL)
    rw [show u[j]=u[j]?.getD [] by rw [List.getElem?_eq_getElem aL];rfl] at h5
    have aW:=Hd (sK u N j)
    obtain ⟨qs,bh⟩:∃qs,u[j]?.getD []=qs:=⟨_,rfl⟩
    rw [bh] at aW h5
    obtain ⟨cz,ck⟩:=hd2 bh aL
    clear aL bh
    generalize gu u N j=SJ at *
    obtain ⟨i4,i5⟩:=ib (by omega:j<bn)
    go_wp2_with fail
    go_loopw [13] (fun i wr=>∃(q:Nat) (SK:Option Addr) (m c:Nat),q<=qs.length/\i = .int .i64 (q:Int)/\m<=5 * j+q/\aJ Y wr [.cel (ah (CT++iO u k Z p)) (.slice A2 n2 cB),.cel (vV u) (.slice PA bn pc),.cel (aH Z) (.slice (some ⟨bu,ou,none⟩) un uc),.blk gc #[.int .i64 N,.int .i64 (k:Int),.int .i64 (p:Int),.slice SK m c] 158,.cel (bR (SJ++nO N j qs q)) (.slice SK m c)]) (fun i _=>qs.length - (intOf i).toNat)
    ·exact ⟨0,_,_,_,by omega,rfl,by omega,by simpa [nO] using ak.out⟩
    obtain ⟨q,SK,m,mc,hq,rfl,hm,hs⟩:=hrel
    have K:=Hd hs
    clear hs
    obtain ⟨bp,op,PT,pm,pp,bW,bC,cp,rp⟩:=(K.out.rd 1 rfl).rowsR (k:=j) ck.out
    rw [cz.out] at rp
    obtain ⟨cL,cC⟩:=hd2 bW rp.ints
    have di:qs.length=pm:=rp.ints.1
    clear rp bW
    obtain rfl:=cL.out
    by_cases bX:q<pm
    ·have co:=dT (by omega:q<pm)
     obtain ⟨bq,oq,bN,bQ,bw⟩:=cC.out.2 (by omega)
     have cK:=Hd bN
     have cq:=bw q bX
     obtain ⟨b2,o2,b3,a0,ap⟩:=(K.out.ints 2 rfl).2 (by omega)
     obtain ⟨rfl,rfl⟩:bu=b2/\ou=o2:=by
      injection b3 with h
      injection h with h1 h2
      exact ⟨h1,h2⟩
     have cu:=ap p aZ
     rw [cX.out] at cu
     have bH:=Hd (ut N j qs q)
     clear bw bN b3 ap
     obtain rfl:=cK.out
     generalize qs[q]?.getD 0=y at *
     generalize nO N j qs q=SQ at *
     obtain ⟨i6,i7⟩:=ib (by omega:q<pm)
     by_cases hy:y=N
     ·have dy:(y==N)=true:=by simp [hy]
      have HC:Hid (SJ++nO N j qs (q+1)=SJ++SQ++[⟨(j:Int),(q:Int)⟩]):=by show _=_;rw [bH.out,if_pos hy,List.append_assoc]
      clear hy
      go_upto_region 23 with fail
      have av:=aY wr
      have bd:=aP wr
      refine wpB wr ?_
      repeat (go_big_quiet_step (fail))
      refine wpQuiet_nil ?_
      rintro wq ⟨⟨w5,V⟩,hw⟩
      replace hw:wq=w5:=hw
      subst hw
      have ad:=Hd (K.out.below V)
      clear av bd V cp bC cq bQ cu a0
      have ao:=(ad.out.blk 3 rfl).1
      obtain ⟨-,-,-,z3,lz⟩:=cO ao
      have cJ:=Hd ((ad.out.consPin (j:Int) (q:Int)).alloc (.cells #[.int .i64 (j:Int),.int .i64 (q:Int)] 100))
      have dr:m<=1000:=by omega
      clear ao
      go_wp2_with (at_builtin;refine gQ rfl _ _ 156 100 rfl cF _ 2 16 Tryz.underlying156 aU.out.1 aU.out.2.1 aU.out.2.2.1 aU.out.2.2.2 rfl (by decide) (by decide) _ (cJ.out) 5 0 (by decide) m mc _ SK ((SJ++SQ).flatMap bS.cells) _ #[.int .i64 (j:Int),.int .i64 (q:Int)] _ rfl rfl rfl rfl (aI _ _) rfl (by omega) ?_;intro g9 aN w9 S9 ar;have a3:=Hd (S9.tail.blk 3 rfl).1;have l9:=aF (k:=3) a3.out rfl;have f9:=aX a3.out 3;have q9:=aC a3.out;have cE:=Hd (S9.tail.put 3 rfl 3 (.slice (some ⟨g9,0,none⟩) (m+1) aN));clear S9 ar)
      go_roundw
      ·exact ⟨q+1,some ⟨g9,0,none⟩,m+1,aN,by omega,by go_num,by omega,by rw [HC.out];unfold bR;rw [xN];exact cE.out⟩
      simp [intOf];omega
     have dy:(y==N)=false:=by simp [hy]
     have HC:Hid (SJ++nO N j qs (q+1)=SJ++SQ):=by show _=_;rw [bH.out,if_neg hy,List.append_nil]
     clear hy
     go_upto_region 23 with fail
     have av:=aY wr
     have bd:=aP wr
     refine wpB wr ?_
     repeat (go_big_quiet_step (fail))
     refine wpQuiet_nil ?_
     rintro wq ⟨⟨w5,V⟩,hw⟩
     replace hw:wq=w5:=hw
     subst hw
     have ad:=Hd (K.out.below V)
     clear av bd V cp bC cq bQ cu a0
     go_wp2_with fail
     go_roundw
     ·exact ⟨q+1,SK,m,mc,by omega,by go_num,by omega,by rw [HC.out];exact ad.out⟩
     simp [intOf];omega
    have bJ:q=qs.length:=by omega
    have co:=dF (by omega:pm<=q)
    rw [bJ] at K hm
    clear bJ
    go_wp2_with fail
    go_roundw
    ·exact ⟨j+1,SK,m,mc,by omega,by go_num,by omega,by rw [aW.out];exact K.out⟩
    simp [intOf];omega
   have cw:j=bn:=by omega
   have cI:=dF (by omega:bn<=j)
   have aW:Hid (gu u N j=gu u N u.length):=by show _=_;rw [bD.out,cw]
   rw [aW.out] at ak
   have ao:=(ak.out.blk 3 rfl).1
   obtain ⟨z0,z1,z2,z3,lz⟩:=cO ao
   have cm:(gu u N u.length).length=m:=(ak.out.rd 4 rfl).pinN
   clear ao
   by_cases dq:m=0
   ·have dm:decide ((0:Int)<(m:Int))=false:=decide_eq_false (by omega)
    have c3:decide (0<m)=false:=decide_eq_false (by omega)
    have HC:Hid (iO u k Z (p+1)=iO u k Z p):=by show _=_;rw [a9.out];unfold uq;rw [if_pos (by omega),List.append_nil]
    have au:=Hd (ak.out.sub (qs:=[_,_,_]) (List.Sublist.cons_cons _ (List.Sublist.cons_cons _ (List.Sublist.cons_cons _ (List.nil_sublist _)))))
    go_wp2_with fail
    go_roundw
    ·exact ⟨p+1,_,_,_,by omega,by go_num,rfl,by omega,by rw [HC.out];exact au.out⟩
    simp [intOf];omega
   have dm:decide ((0:Int)<(m:Int))=true:=decide_eq_true (by omega)
   have c3:decide (0<m)=true:=decide_eq_true (by omega)
   have HC:Hid (CT++iO u k Z (p+1)=CT++iO u k Z p++[⟨N,⟨(k:Int),(p:Int)⟩,gu u N u.length⟩]):=by show _=_;rw [a9.out];unfold uq;rw [if_neg (by omega),List.append_assoc]
   have au:=Hd ((ak.out.connCels 4 N (k:Int) (p:Int) rfl).alloc (.cells #[.int .i64 N,.int .i64 (k:Int),.int .i64 (p:Int),.slice SK m mc] 158))
   have dt:n2<=1000:=by omega
   clear cm
   go_wp2_with (at_builtin;refine gQ rfl _ _ 43 158 rfl cR _ 4 48 Tryz.underlying43 aM.out.1 aM.out.2.1 aM.out.2.2.1 aM.out.2.2.2 rfl (by decide) (by decide) _ (au.out) 0 4 (by decide) n2 cB _ A2 ((CT++iO u k Z p).flatMap Cn.cells) _ #[.int .i64 N,.int .i64 (k:Int),.int .i64 (p:Int),.slice SK m mc] _ rfl rfl rfl rfl (aI _ _) rfl (by omega) ?_;intro g9 aN w9 S9 ar;have cQ:=Hd (S9.sub (qs:=[_,_,_]) (List.Sublist.cons_cons _ (List.Sublist.cons_cons _ (List.Sublist.cons_cons _ (List.nil_sublist _)))));clear S9 ar)
   go_roundw
   ·exact ⟨p+1,_,_,_,by omega,by go_num,rfl,by omega,by rw [HC.out];unfold ah;rw [AC];exact cQ.out⟩
   simp [intOf];omega
  have c4:p=un:=by omega
  have cV:=dF (by omega:un<=p)
  rw [c4] at aR cn
  have au:=Hd (aR.out.sub (qs:=[_,_]) (List.Sublist.cons_cons _ (List.Sublist.cons_cons _ (List.nil_sublist _))))
  go_wp2_with fail
  go_roundw
  ·exact ⟨k+1,_,_,_,by omega,by go_num,rfl,by omega,by rw [J.out];exact au.out⟩
  simp [intOf];omega
 have aV:k=bn:=by omega
 have a4:=dF (by omega:bn<=k)
 have J:Hid (kw l bs k=eY l bs):=by show _=_;rw [aV];unfold eY;rw [af.out]
 rw [J.out] at W
 go_wp2_with fail
 go_ret
 exact ⟨_,_,_,rfl,(W.out.tree 0 rfl).widen z.out.size (Nat.le_refl _),aA z.out W.out.bel⟩
theorem kr (xs bs:List Cn) (CA DA:Option Addr) (cn cc dn dc:Nat) (w:World) (hC:RdC w w.heap.size (ah xs) (.slice CA cn cc)) (D:RdC w w.heap.size (ah bs) (.slice DA dn dc)) (hn:cn<=1048576) (B:∀c∈xs,c.sinks.length<=1048576) :
  Calls Tryz.prog 36 #[.slice CA cn cc,.slice DA dn dc] w fun e w'=>e = .returned (.bool (tb (xs=bs)))/\Below w.heap.size w w':=by
 have aj:=hC.cnN
 have ao:=D.cnN
 obtain ⟨ar,a1,HC,a7,a8⟩:=hd5 aj ao hC D B
 clear hC D B
 by_cases aH:cn=dn
 ·subst aH
  have bo:((cn:Int) != (cn:Int))=false:=by simp
  clear aj ao
  go_enter Tryz.func36,Tryz.ntmps36
  go_wp2_with fail
  go_loopw [5] (fun i wr=>∃k:Nat,k<=cn/\i = .int .i64 (k:Int)/\Below w.heap.size w wr/\∀j,j<k→xs[j]?.getD Cn.zero=bs[j]?.getD Cn.zero) (fun i _=>cn - (intOf i).toNat)
  ·exact ⟨0,by omega,rfl,Below.refl _ _,fun j hj=>by omega⟩
  obtain ⟨k,hk,rfl,U,K⟩:=hrel
  obtain ⟨g,Z⟩:=hd2 U K
  clear U K
  by_cases a0:k<cn
  ·have be:=dT (by omega:k<cn)
   have al:k<xs.length:=by rw [ar.out];exact a0
   have aQ:k<bs.length:=by rw [a1.out];exact a0
   obtain ⟨bc,oc,SA,m,mc,aR,G,c0,c1,c2,c3,rs⟩:=HC.out.cn (k:=k) al
   obtain ⟨bd,od,TA,m',br,aT,B,W,V,d2,d3,rt⟩:=a7.out.cn (k:=k) aQ
   obtain ⟨bl,bn⟩:=hd2 aR aT
   have ag:=aK g.out G
   have ai:=aK g.out B
   rw [←g.out.cell (p:=⟨bc,oc+k * 4,none⟩) G] at c0
   rw [←g.out.cell (p:=⟨bd,od+k * 4,none⟩) B] at W
   rw [←g.out.cell (p:=⟨bc,oc+k * 4+1,none⟩) G] at c1
   rw [←g.out.cell (p:=⟨bd,od+k * 4+1,none⟩) B] at V
   rw [←g.out.cell (p:=⟨bc,oc+k * 4+2,none⟩) G] at c2
   rw [←g.out.cell (p:=⟨bd,od+k * 4+2,none⟩) B] at d2
   rw [←g.out.cell (p:=⟨bc,oc+k * 4+3,none⟩) G] at c3
   rw [←g.out.cell (p:=⟨bd,od+k * 4+3,none⟩) B] at d3
   have hg:xs[k]?.getD Cn.zero=bs[k]?.getD Cn.zero→∀j,j<k+1→xs[j]?.getD Cn.zero=bs[j]?.getD Cn.zero:=fun h=>bW Z.out h
   have aV:xs=bs→xs[k]?.getD Cn.zero=bs[k]?.getD Cn.zero:=fun h=>by rw [h]
   have R:=a8.out _ (List.getElem_mem al)
   rw [show xs[k]=xs[k]?.getD Cn.zero by rw [List.getElem?_eq_getElem al];rfl] at R
   obtain ⟨HG,Q⟩:=hd2 hg aV
   clear al aQ hg aV aR aT
   obtain rfl:=bl.out
   obtain rfl:=bn.out
   generalize xs[k]?.getD Cn.zero=a at *
   generalize bs[k]?.getD Cn.zero=b at *
   obtain ⟨N,⟨p,q⟩,ss⟩:=a
   obtain ⟨N',⟨p',q'⟩,ts⟩:=b
   simp only at c0 c1 c2 c3 W V d2 d3 R
   have aJ:=Hd (show RdC w w.heap.size (bR ss) (.slice SA m mc) from rs)
   have aW:=Hd (show RdC w w.heap.size (bR ts) (.slice TA m' br) from rt)
   have ad:Hid (ss.length=m):=aJ.out.pinN
   have aG:Hid (ts.length=m'):=aW.out.pinN
   have hm:m<=1048576:=by rw [←ad.out];exact R
   obtain ⟨i0,i1⟩:=ib (by omega:k<cn)
   clear rs rt R
   by_cases hN:N=N'
   ·subst hN
    have dN:(N != N)=false:=by simp
    by_cases av:p=p'/\q=q'
    ·obtain ⟨rfl,rfl⟩:=av
     by_cases aI:m=m'
     ·subst aI
      have dm:((m:Int) != (m:Int))=false:=by simp
      have bm:Hid (ss=ts→∀j,j<k+1→xs[j]?.getD Cn.zero=bs[j]?.getD Cn.zero):=fun h=>HG.out (by rw [h])
      clear HG
      go_upto_region 6 with fail
      have u:=aY wr
      have z:=aP wr
      refine wpB wr ?_
      repeat (go_big_quiet_step ((fail)))
      refine wpQuiet_nil ?_
      rintro _ ⟨⟨w5,D⟩,rfl⟩
      clear u z
      have H:=Hd (aA g.out D)
      clear D
      have bC:=Hd H.out
      have C3:=Hd ((g.out.cell (p:=⟨bc,oc+k * 4+3,none⟩) G).symm.trans c3)
      have D3:=Hd ((g.out.cell (p:=⟨bd,od+k * 4+3,none⟩) B).symm.trans d3)
      have ae:=(H.out.cell (p:=⟨bc,oc+k * 4+3,none⟩) G).trans (((g.out.cell (p:=⟨bc,oc+k * 4+3,none⟩) G)).symm.trans c3)
      have af:=(H.out.cell (p:=⟨bd,od+k * 4+3,none⟩) B).trans (((g.out.cell (p:=⟨bd,od+k * 4+3,none⟩) B)).symm.trans d3)
      have I:=aK H.out G
      have J:=aK H.out B
      clear c0 c1 c2 c3 W V d2 d3 ag ai
      go_wp2_with fail
      clear ae af I J
      go_loopw [6] (fun i wr=>∃j:Nat,j<=m/\i = .int .i64 (j:Int)/\Below w.heap.size w wr/\∀q,q<j→ss[q]?.getD bS.zero=ts[q]?.getD bS.zero) (fun i _=>m - (intOf i).toNat)
      ·exact ⟨0,by omega,rfl,H.out,fun q hq=>by omega⟩
      obtain ⟨j,hj,rfl,U,K⟩:=hrel
      obtain ⟨g,aC⟩:=hd2 U K
      clear U K
      have ae:=(g.out.cell (p:=⟨bc,oc+k * 4+3,none⟩) G).trans C3.out
      have af:=(g.out.cell (p:=⟨bd,od+k * 4+3,none⟩) B).trans D3.out
      have I:=aK g.out G
      have J:=aK g.out B
      have bM:(0:Int)<=(j:Int):=by omega
      by_cases aq:j<m
      ·have bh:=dT (by omega:j<m)
       have aL:j<ss.length:=by rw [ad.out];exact aq
       have aS:j<ts.length:=by rw [aG.out];exact aq
       obtain ⟨bp,op,aU,au,W,V⟩:=aJ.out.pin (k:=j) aL
       obtain ⟨bq,oq,aX,aF,e0,e1⟩:=aW.out.pin (k:=j) aS
       obtain ⟨bj,bg⟩:=hd2 aU aX
       have aw:=aK g.out au
       have aE:=aK g.out aF
       rw [←g.out.cell (p:=⟨bp,op+j * 2,none⟩) au] at W
       rw [←g.out.cell (p:=⟨bp,op+j * 2+1,none⟩) au] at V
       rw [←g.out.cell (p:=⟨bq,oq+j * 2,none⟩) aF] at e0
       rw [←g.out.cell (p:=⟨bq,oq+j * 2+1,none⟩) aF] at e1
       have HG:Hid (ss[j]?.getD bS.zero=ts[j]?.getD bS.zero→∀q,q<j+1→ss[q]?.getD bS.zero=ts[q]?.getD bS.zero):=fun h=>bW aC.out h
       have HN:Hid (ss[j]?.getD bS.zero≠ts[j]?.getD bS.zero→xs≠bs):=fun h h'=>h (by
        have h2:=Q.out h'
        injection h2 with _ _ h3
        rw [h3])
       clear aL aS aU aX
       obtain rfl:=bj.out
       obtain rfl:=bg.out
       generalize ss[j]?.getD bS.zero=s at *
       generalize ts[j]?.getD bS.zero=t at *
       obtain ⟨x,y⟩:=s
       obtain ⟨x',y'⟩:=t
       simp only at W V e0 e1
       obtain ⟨i2,i3⟩:=ib (by omega:j<m)
       by_cases ax:x=x'/\y=y'
       ·obtain ⟨rfl,rfl⟩:=ax
        have az:=Hd (HG.out rfl)
        clear HG HN
        go_upto_region 11 with fail
        have u:=aY wr
        have z:=aP wr
        refine wpB wr ?_
        repeat (go_big_quiet_step ((fail)))
        refine wpQuiet_nil ?_
        rintro _ ⟨⟨w5,D⟩,rfl⟩
        clear u z
        have H:=Hd (aA g.out D)
        clear D W V e0 e1 aw aE ae af I J
        go_wp2_with fail
        go_roundw
        ·exact ⟨j+1,by omega,by go_num,H.out,az.out⟩
        simp [intOf];omega
       have Y:Hid (¬xs=bs):=HN.out fun h=>ax (by injection h with h1 h2;exact ⟨h1,h2⟩)
       clear HG HN
       by_cases hx:x=x'
       ·subst hx
        have dy:(y==y')=false:=by
         cases U:y==y' with
         | false=>rfl
         | true=>exact absurd ⟨rfl,by simpa using U⟩ ax
        go_upto_region 11 with fail
        have u:=aY wr
        have z:=aP wr
        refine wpB wr ?_
        repeat (go_big_quiet_step ((fail)))
        refine wpQuiet_nil ?_
        rintro _ ⟨⟨w5,D⟩,rfl⟩
        clear u z
        have H:=Hd (aA g.out D)
        clear D W V e0 e1 aw aE ae af I J
        go_wp2_with fail
        go_ret
        exact ⟨aO Y.out,H.out⟩
       have dx:(x==x')=false:=by
        cases U:x==x' with
        | false=>rfl
        | true=>exact absurd (by simpa using U) hx
       go_upto_region 11 with fail
       have u:=aY wr
       have z:=aP wr
       refine wpB wr ?_
       repeat (go_big_quiet_step ((fail)))
       refine wpQuiet_nil ?_
       rintro _ ⟨⟨w5,D⟩,rfl⟩
       clear u z
       have H:=Hd (aA g.out D)
       clear D W V e0 e1 aw aE ae af I J
       go_wp2_with fail
       go_ret
       exact ⟨aO Y.out,H.out⟩
      have aN:j=m:=by omega
      have bh:=dF (by omega:m<=j)
      have az:=Hd (bm.out (by
       apply List.ext_getElem
       ·rw [ad.out,aG.out]
       intro q h1 h2
       have h:=aC.out q (by rw [aN,←ad.out];exact h1)
       rwa [List.getElem?_eq_getElem h1,List.getElem?_eq_getElem h2] at h))
      clear aC aN
      go_wp2_with fail
      go_roundw
      ·exact ⟨k+1,by omega,by go_num,g.out,az.out⟩
      simp [intOf];omega
     have Y:Hid (¬xs=bs):=fun h=>aI (by
      have h2:=Q.out h
      injection h2 with _ _ h3
      rw [←ad.out,←aG.out,h3])
     have dm:((m:Int) != (m':Int))=true:=by simp;omega
     clear HG Q aI
     go_upto_region 6 with fail
     have u:=aY wr
     have z:=aP wr
     refine wpB wr ?_
     repeat (go_big_quiet_step ((fail)))
     refine wpQuiet_nil ?_
     rintro _ ⟨⟨w5,D⟩,rfl⟩
     clear u z
     have H:=Hd (aA g.out D)
     clear D c0 c1 c2 c3 W V d2 d3 ag ai
     go_wp2_with fail
     go_ret
     exact ⟨aO Y.out,H.out⟩
    have Y:Hid (¬xs=bs):=fun h=>av (by
     have h2:=Q.out h
     injection h2 with _ h3 _
     injection h3 with h4 h5
     exact ⟨h4,h5⟩)
    clear HG Q
    by_cases hp:p=p'
    ·subst hp
     have dq:(q==q')=false:=by
      cases U:q==q' with
      | false=>rfl
      | true=>exact absurd ⟨rfl,by simpa using U⟩ av
     go_upto_region 6 with fail
     have u:=aY wr
     have z:=aP wr
     refine wpB wr ?_
     repeat (go_big_quiet_step ((fail)))
     refine wpQuiet_nil ?_
     rintro _ ⟨⟨w5,D⟩,rfl⟩
     clear u z
     have H:=Hd (aA g.out D)
     clear D c0 c1 c2 c3 W V d2 d3 ag ai
     go_wp2_with fail
     go_ret
     exact ⟨aO Y.out,H.out⟩
    have dp:(p==p')=false:=by
     cases U:p==p' with
     | false=>rfl
     | true=>exact absurd (by simpa using U) hp
    go_upto_region 6 with fail
    have u:=aY wr
    have z:=aP wr
    refine wpB wr ?_
    repeat (go_big_quiet_step ((fail)))
    refine wpQuiet_nil ?_
    rintro _ ⟨⟨w5,D⟩,rfl⟩
    clear u z
    have H:=Hd (aA g.out D)
    clear D c0 c1 c2 c3 W V d2 d3 ag ai
    go_wp2_with fail
    go_ret
    exact ⟨aO Y.out,H.out⟩
   have Y:Hid (¬xs=bs):=fun h=>hN (by
    have h2:=Q.out h
    injection h2 with h3 _ _)
   have dN:(N != N')=true:=by simp [hN]
   clear HG Q hN
   go_upto_region 6 with fail
   have u:=aY wr
   have z:=aP wr
   refine wpB wr ?_
   repeat (go_big_quiet_step ((fail)))
   refine wpQuiet_nil ?_
   rintro _ ⟨⟨w5,D⟩,rfl⟩
   clear u z
   have H:=Hd (aA g.out D)
   clear D c0 c1 c2 c3 W V d2 d3 ag ai
   go_wp2_with fail
   go_ret
   exact ⟨aO Y.out,H.out⟩
  have aZ:k=cn:=by omega
  have be:=dF (by omega:cn<=k)
  have Y:Hid (xs=bs):=by
   show xs=bs
   apply List.ext_getElem
   ·rw [ar.out,a1.out]
   intro q h1 h2
   have h:=Z.out q (by rw [aZ,←ar.out];exact h1)
   rwa [List.getElem?_eq_getElem h1,List.getElem?_eq_getElem h2] at h
  clear Z aZ
  go_wp2_with fail
  go_ret
  exact ⟨dU Y.out,g.out⟩
 have Y:Hid (¬xs=bs):=fun h=>aH (by rw [←aj,←ao,h])
 have bo:((cn:Int) != (dn:Int))=true:=by simp;omega
 clear aj ao aH
 go_enter Tryz.func36,Tryz.ntmps36
 go_wp2_with fail
 go_ret
 exact ⟨aO Y.out,Below.refl _ _⟩
theorem vv (d:Dev) (x:Lay) (SA LA OA BA CA PA RA:Option Addr) (sn sc ln lc on oc bn bc cn cc pn pc rn rc:Nat) (w:World) (hN:fU w x.net SA LA OA sn sc ln lc on oc) (hB:RdC w w.heap.size (aa x.blocks) (.slice BA bn bc)) (hC:RdC w w.heap.size (ah x.conns) (.slice CA cn cc)) (hP:RdC w w.heap.size (aH x.place) (.slice PA pn pc)) (hR:RdC w w.heap.size (bH x.routes) (.slice RA rn rc))
  (aV:bn<=1048576) (aL:cn<=1048576) (aS:pn<=pc) (aU:pc<=1048576) (a2:∀b∈x.blocks,b.les.length<=1048576) (a4:∀c∈x.conns,c.sinks.length<=1048576) (a6:∀r∈x.routes,r.nodes.length<=1048576/\r.from_.length<=1048576) :
  Calls Tryz.prog 8 #[.agg (dv d),vR x SA LA OA BA CA PA RA sn sc ln lc on oc bn bc cn cc pn pc rn rc] w fun e w'=>e = .returned (.bool (tb (jB d x)))/\Below w.heap.size w w':=by
 obtain ⟨HN,HB,HC,HP,a7,aC,ap,aZ⟩:=hd8 hN hB hC hP hR a2 a4 a6
 clear hN hB hC hP hR a2 a4 a6
 have u:=Hd (aB (aB (Below.refl w.heap.size w) (.cells (dv d) 36)) (.cells #[.int .i64 x.net.inputs,.slice SA sn sc,.slice LA ln lc,.slice OA on oc,.slice BA bn bc,.slice CA cn cc,.slice PA pn pc,.slice RA rn rc] 46))
 have hx:=aW (.cells #[.int .i64 x.net.inputs,.slice SA sn sc,.slice LA ln lc,.slice OA on oc,.slice BA bn bc,.slice CA cn cc,.slice PA pn pc,.slice RA rn rc] 46) (aI w (.cells (dv d) 36))
 have hy:=aI (w.alloc (.cells (dv d) 36)) (.cells #[.int .i64 x.net.inputs,.slice SA sn sc,.slice LA ln lc,.slice OA on oc,.slice BA bn bc,.slice CA cn cc,.slice PA pn pc,.slice RA rn rc] 46)
 simp only [World.size_alloc] at hy
 obtain ⟨au,aw⟩:=hd2 hx hy
 clear hx hy
 by_cases aK:fq x.net x.blocks
 ·have I:=Hd aK
  clear aK
  by_cases aF:x.conns=eY x.net x.blocks
  ·have U:=Hd aF
   clear aF
   by_cases ai:eG d (x.blocks.map Blk.kind) x.place
   ·have aq:=Hd ai
    clear ai
    by_cases aE:fA d x.place x.conns x.routes
    ·have ay:=Hd aE
     have HR:Hid (jB d x):=⟨I.out,U.out,aq.out,ay.out⟩
     clear aE
     go_enter Tryz.func8,Tryz.ntmps8
     go_upto_region 1 with fail
     generalize (w.alloc (.cells (dv d) 36)).alloc (.cells #[.int .i64 x.net.inputs,.slice SA sn sc,.slice LA ln lc,.slice OA on oc,.slice BA bn bc,.slice CA cn cc,.slice PA pn pc,.slice RA rn rc] 46)=z at *
     obtain ⟨x0,x1,x2,V,H⟩:=cO au.out
     obtain ⟨Z,y1,Y,y3,y4,y5,W,y7,D⟩:=mK aw.out
     have j:Hid (∀w',Below z.heap.size z w'→(KD w' w.heap.size d (K8e w' (w.heap.size+1) (.int .i64 x.net.inputs) (.slice SA sn sc) (.slice LA ln lc) (.slice OA on oc) (.slice BA bn bc) (.slice CA cn cc) (.slice PA pn pc) (.slice RA rn rc)))):=fun v g=>⟨(g.cell (p:=⟨w.heap.size,0,none⟩) H).trans x0,(g.cell (p:=⟨w.heap.size,1,none⟩) H).trans x1,(g.cell (p:=⟨w.heap.size,2,none⟩) H).trans x2,(g.cell (p:=⟨w.heap.size,3,none⟩) H).trans V,(g.cell (p:=⟨w.heap.size+1,0,none⟩) D).trans Z,(g.cell (p:=⟨w.heap.size+1,1,none⟩) D).trans y1,(g.cell (p:=⟨w.heap.size+1,2,none⟩) D).trans Y,(g.cell (p:=⟨w.heap.size+1,3,none⟩) D).trans y3,(g.cell (p:=⟨w.heap.size+1,4,none⟩) D).trans y4,(g.cell (p:=⟨w.heap.size+1,5,none⟩) D).trans y5,(g.cell (p:=⟨w.heap.size+1,6,none⟩) D).trans W,(g.cell (p:=⟨w.heap.size+1,7,none⟩) D).trans y7⟩
     have q:=(Below.refl z.heap.size z).drew
     have J:=Hd (fun (v:World) (g:Below z.heap.size z v)=>(by have h:=kS x.net SA LA OA sn sc ln lc on oc x.blocks BA bn bc v (HN.out.below (aA u.out g)) (HB.out.below (aA u.out g)) aC.out;rwa [ae I.out] at h:Calls Tryz.prog 35 #[jE x.net SA LA OA sn sc ln lc on oc,.slice BA bn bc] v fun e w'=>e = .returned (.bool true)/\Below v.heap.size v w'))
     have R:=Hd (fun (v:World) (g:Below z.heap.size z v)=>mU x.net SA LA OA sn sc ln lc on oc x.blocks BA bn bc v (HN.out.below (aA u.out g)) (HB.out.below (aA u.out g)) I.out)
     have Q:=Hd (fun (v:World) (g:Below z.heap.size z v) (A:Option Addr) (n c:Nat) (h:RdC v v.heap.size (ah (eY x.net x.blocks)) (.slice A n c))=>(by have h:=kr x.conns (eY x.net x.blocks) CA A cn cc n c v (HC.out.below (aA u.out g)) h aL ap.out;rwa [ae U.out] at h:Calls Tryz.prog 36 #[.slice CA cn cc,.slice A n c] v fun e w'=>e = .returned (.bool true)/\Below v.heap.size v w'))
     have ax:=Hd (fun (v:World) (g:Below z.heap.size z v)=>qI x.blocks BA bn bc v (HB.out.below (aA u.out g)) aV)
     have av:=Hd (fun (v:World) (g:Below z.heap.size z v) (A:Option Addr) (c:Nat) (h:dP v A bn (x.blocks.map Blk.kind))=>(by have h:=qJ d (x.blocks.map Blk.kind) x.place A PA bn c pn pc v h (HP.out.ints.below (aA u.out g)) aS aU;rwa [ae aq.out] at h:Calls Tryz.prog 38 #[.agg (dv d),.slice A bn c,.slice PA pn pc] v fun e w'=>e = .returned (.bool true)/\Below v.heap.size v w'))
     have aX:=Hd (fun (v:World) (g:Below z.heap.size z v)=>(by have h:=qw d x.place x.conns x.routes PA CA RA pn pc cn cc rn rc v (HP.out.ints.below (aA u.out g)) (HC.out.below (aA u.out g)) (a7.out.below (aA u.out g)) (by omega) ap.out aZ.out;rwa [ae ay.out] at h:Calls Tryz.prog 40 #[.agg (dv d),.slice PA pn pc,.slice CA cn cc,.slice RA rn rc] v fun e w'=>e = .returned (.bool true)/\Below v.heap.size v w'))
     go_region_held3 (fun w'=>KD w' w.heap.size d (K8e w' (w.heap.size+1) (.int .i64 x.net.inputs) (.slice SA sn sc) (.slice LA ln lc) (.slice OA on oc) (.slice BA bn bc) (.slice CA cn cc) (.slice PA pn pc) (.slice RA rn rc)))
      (first|exact j.out _ q)
      ((first
      | (go_at_call 35;(with_reducible refine (J.out _ q).mono ?_);rintro _ w5 ⟨rfl,B⟩;replace q:=aA q B;clear B)
      | (go_at_call 37;(with_reducible refine (R.out _ q).mono ?_);rintro e5 w5 ⟨A5,n5,c5,rfl,o5,B⟩;have O5:=Hd o5.rd;clear o5;replace q:=aA q B;clear B)
      | (go_at_call 36;(with_reducible refine (Q.out _ q A5 n5 c5 O5.out).mono ?_);rintro _ w6 ⟨rfl,B⟩;replace q:=aA q B;clear B)
      | (go_at_call 39;(with_reducible refine (ax.out _ q).mono ?_);rintro e7 w7 ⟨A7,c7,rfl,o7,B⟩;have O7:=Hd o7.ints;clear o7;replace q:=aA q B;clear B)
      | (go_at_call 38;(with_reducible refine (av.out _ q A7 c7 O7.out).mono ?_);rintro _ w8 ⟨rfl,B⟩;replace q:=aA q B;clear B)
      | (go_at_call 40;(with_reducible refine (aX.out _ q).mono ?_);rintro _ w4 ⟨rfl,B⟩;replace q:=aA q B;clear B)))
     have HD:=Hd (aA u.out q)
     clear q x0 x1 x2 V H Z y1 Y y3 y4 y5 W y7 D j
     go_wp2_with fail
     go_ret
     exact ⟨dU HR.out,HD.out⟩
    have ay:=Hd aE
    have HR:Hid (¬jB d x):=fun h=>ay.out h.routes
    clear aE
    go_enter Tryz.func8,Tryz.ntmps8
    go_upto_region 1 with fail
    generalize (w.alloc (.cells (dv d) 36)).alloc (.cells #[.int .i64 x.net.inputs,.slice SA sn sc,.slice LA ln lc,.slice OA on oc,.slice BA bn bc,.slice CA cn cc,.slice PA pn pc,.slice RA rn rc] 46)=z at *
    obtain ⟨x0,x1,x2,V,H⟩:=cO au.out
    obtain ⟨Z,y1,Y,y3,y4,y5,W,y7,D⟩:=mK aw.out
    have j:Hid (∀w',Below z.heap.size z w'→(KD w' w.heap.size d (K8e w' (w.heap.size+1) (.int .i64 x.net.inputs) (.slice SA sn sc) (.slice LA ln lc) (.slice OA on oc) (.slice BA bn bc) (.slice CA cn cc) (.slice PA pn pc) (.slice RA rn rc)))):=fun v g=>⟨(g.cell (p:=⟨w.heap.size,0,none⟩) H).trans x0,(g.cell (p:=⟨w.heap.size,1,none⟩) H).trans x1,(g.cell (p:=⟨w.heap.size,2,none⟩) H).trans x2,(g.cell (p:=⟨w.heap.size,3,none⟩) H).trans V,(g.cell (p:=⟨w.heap.size+1,0,none⟩) D).trans Z,(g.cell (p:=⟨w.heap.size+1,1,none⟩) D).trans y1,(g.cell (p:=⟨w.heap.size+1,2,none⟩) D).trans Y,(g.cell (p:=⟨w.heap.size+1,3,none⟩) D).trans y3,(g.cell (p:=⟨w.heap.size+1,4,none⟩) D).trans y4,(g.cell (p:=⟨w.heap.size+1,5,none⟩) D).trans y5,(g.cell (p:=⟨w.heap.size+1,6,none⟩) D).trans W,(g.cell (p:=⟨w.heap.size+1,7,none⟩) D).trans y7⟩
    have q:=(Below.refl z.heap.size z).drew
    have J:=Hd (fun (v:World) (g:Below z.heap.size z v)=>(by have h:=kS x.net SA LA OA sn sc ln lc on oc x.blocks BA bn bc v (HN.out.below (aA u.out g)) (HB.out.below (aA u.out g)) aC.out;rwa [ae I.out] at h:Calls Tryz.prog 35 #[jE x.net SA LA OA sn sc ln lc on oc,.slice BA bn bc] v fun e w'=>e = .returned (.bool true)/\Below v.heap.size v w'))
    have R:=Hd (fun (v:World) (g:Below z.heap.size z v)=>mU x.net SA LA OA sn sc ln lc on oc x.blocks BA bn bc v (HN.out.below (aA u.out g)) (HB.out.below (aA u.out g)) I.out)
    have Q:=Hd (fun (v:World) (g:Below z.heap.size z v) (A:Option Addr) (n c:Nat) (h:RdC v v.heap.size (ah (eY x.net x.blocks)) (.slice A n c))=>(by have h:=kr x.conns (eY x.net x.blocks) CA A cn cc n c v (HC.out.below (aA u.out g)) h aL ap.out;rwa [ae U.out] at h:Calls Tryz.prog 36 #[.slice CA cn cc,.slice A n c] v fun e w'=>e = .returned (.bool true)/\Below v.heap.size v w'))
    have ax:=Hd (fun (v:World) (g:Below z.heap.size z v)=>qI x.blocks BA bn bc v (HB.out.below (aA u.out g)) aV)
    have av:=Hd (fun (v:World) (g:Below z.heap.size z v) (A:Option Addr) (c:Nat) (h:dP v A bn (x.blocks.map Blk.kind))=>(by have h:=qJ d (x.blocks.map Blk.kind) x.place A PA bn c pn pc v h (HP.out.ints.below (aA u.out g)) aS aU;rwa [ae aq.out] at h:Calls Tryz.prog 38 #[.agg (dv d),.slice A bn c,.slice PA pn pc] v fun e w'=>e = .returned (.bool true)/\Below v.heap.size v w'))
    have aX:=Hd (fun (v:World) (g:Below z.heap.size z v)=>(by have h:=qw d x.place x.conns x.routes PA CA RA pn pc cn cc rn rc v (HP.out.ints.below (aA u.out g)) (HC.out.below (aA u.out g)) (a7.out.below (aA u.out g)) (by omega) ap.out aZ.out;rwa [bJ ay.out] at h:Calls Tryz.prog 40 #[.agg (dv d),.slice PA pn pc,.slice CA cn cc,.slice RA rn rc] v fun e w'=>e = .returned (.bool false)/\Below v.heap.size v w'))
    go_region_held3 (fun w'=>KD w' w.heap.size d (K8e w' (w.heap.size+1) (.int .i64 x.net.inputs) (.slice SA sn sc) (.slice LA ln lc) (.slice OA on oc) (.slice BA bn bc) (.slice CA cn cc) (.slice PA pn pc) (.slice RA rn rc)))
     (first|exact j.out _ q)
     ((first
     | (go_at_call 35;(with_reducible refine (J.out _ q).mono ?_);rintro _ w5 ⟨rfl,B⟩;replace q:=aA q B;clear B)
     | (go_at_call 37;(with_reducible refine (R.out _ q).mono ?_);rintro e5 w5 ⟨A5,n5,c5,rfl,o5,B⟩;have O5:=Hd o5.rd;clear o5;replace q:=aA q B;clear B)
     | (go_at_call 36;(with_reducible refine (Q.out _ q A5 n5 c5 O5.out).mono ?_);rintro _ w6 ⟨rfl,B⟩;replace q:=aA q B;clear B)
     | (go_at_call 39;(with_reducible refine (ax.out _ q).mono ?_);rintro e7 w7 ⟨A7,c7,rfl,o7,B⟩;have O7:=Hd o7.ints;clear o7;replace q:=aA q B;clear B)
     | (go_at_call 38;(with_reducible refine (av.out _ q A7 c7 O7.out).mono ?_);rintro _ w8 ⟨rfl,B⟩;replace q:=aA q B;clear B)
     | (go_at_call 40;(with_reducible refine (aX.out _ q).mono ?_);rintro _ w4 ⟨rfl,B⟩;replace q:=aA q B;clear B)))
    have HD:=Hd (aA u.out q)
    clear q x0 x1 x2 V H Z y1 Y y3 y4 y5 W y7 D j
    go_wp2_with fail
    go_ret
    exact ⟨aO HR.out,HD.out⟩
   have aq:=Hd ai
   have HR:Hid (¬jB d x):=fun h=>aq.out h.place
   clear ai
   go_enter Tryz.func8,Tryz.ntmps8
   go_upto_region 1 with fail
   generalize (w.alloc (.cells (dv d) 36)).alloc (.cells #[.int .i64 x.net.inputs,.slice SA sn sc,.slice LA ln lc,.slice OA on oc,.slice BA bn bc,.slice CA cn cc,.slice PA pn pc,.slice RA rn rc] 46)=z at *
   obtain ⟨x0,x1,x2,V,H⟩:=cO au.out
   obtain ⟨Z,y1,Y,y3,y4,y5,W,y7,D⟩:=mK aw.out
   have j:Hid (∀w',Below z.heap.size z w'→(KD w' w.heap.size d (K8e w' (w.heap.size+1) (.int .i64 x.net.inputs) (.slice SA sn sc) (.slice LA ln lc) (.slice OA on oc) (.slice BA bn bc) (.slice CA cn cc) (.slice PA pn pc) (.slice RA rn rc)))):=fun v g=>⟨(g.cell (p:=⟨w.heap.size,0,none⟩) H).trans x0,(g.cell (p:=⟨w.heap.size,1,none⟩) H).trans x1,(g.cell (p:=⟨w.heap.size,2,none⟩) H).trans x2,(g.cell (p:=⟨w.heap.size,3,none⟩) H).trans V,(g.cell (p:=⟨w.heap.size+1,0,none⟩) D).trans Z,(g.cell (p:=⟨w.heap.size+1,1,none⟩) D).trans y1,(g.cell (p:=⟨w.heap.size+1,2,none⟩) D).trans Y,(g.cell (p:=⟨w.heap.size+1,3,none⟩) D).trans y3,(g.cell (p:=⟨w.heap.size+1,4,none⟩) D).trans y4,(g.cell (p:=⟨w.heap.size+1,5,none⟩) D).trans y5,(g.cell (p:=⟨w.heap.size+1,6,none⟩) D).trans W,(g.cell (p:=⟨w.heap.size+1,7,none⟩) D).trans y7⟩
   have q:=(Below.refl z.heap.size z).drew
   have J:=Hd (fun (v:World) (g:Below z.heap.size z v)=>(by have h:=kS x.net SA LA OA sn sc ln lc on oc x.blocks BA bn bc v (HN.out.below (aA u.out g)) (HB.out.below (aA u.out g)) aC.out;rwa [ae I.out] at h:Calls Tryz.prog 35 #[jE x.net SA LA OA sn sc ln lc on oc,.slice BA bn bc] v fun e w'=>e = .returned (.bool true)/\Below v.heap.size v w'))
   have R:=Hd (fun (v:World) (g:Below z.heap.size z v)=>mU x.net SA LA OA sn sc ln lc on oc x.blocks BA bn bc v (HN.out.below (aA u.out g)) (HB.out.below (aA u.out g)) I.out)
   have Q:=Hd (fun (v:World) (g:Below z.heap.size z v) (A:Option Addr) (n c:Nat) (h:RdC v v.heap.size (ah (eY x.net x.blocks)) (.slice A n c))=>(by have h:=kr x.conns (eY x.net x.blocks) CA A cn cc n c v (HC.out.below (aA u.out g)) h aL ap.out;rwa [ae U.out] at h:Calls Tryz.prog 36 #[.slice CA cn cc,.slice A n c] v fun e w'=>e = .returned (.bool true)/\Below v.heap.size v w'))
   have ax:=Hd (fun (v:World) (g:Below z.heap.size z v)=>qI x.blocks BA bn bc v (HB.out.below (aA u.out g)) aV)
   have av:=Hd (fun (v:World) (g:Below z.heap.size z v) (A:Option Addr) (c:Nat) (h:dP v A bn (x.blocks.map Blk.kind))=>(by have h:=qJ d (x.blocks.map Blk.kind) x.place A PA bn c pn pc v h (HP.out.ints.below (aA u.out g)) aS aU;rwa [bJ aq.out] at h:Calls Tryz.prog 38 #[.agg (dv d),.slice A bn c,.slice PA pn pc] v fun e w'=>e = .returned (.bool false)/\Below v.heap.size v w'))
   refine wp_region_held_drew (S:=(fun w'=>KD w' w.heap.size d (K8e w' (w.heap.size+1) (.int .i64 x.net.inputs) (.slice SA sn sc) (.slice LA ln lc) (.slice OA on oc) (.slice BA bn bc) (.slice CA cn cc) (.slice PA pn pc) (.slice RA rn rc)))) (by kernel_rfl) ?_ (fun hHeld=>?_)
   ·(try dsimp only)
    first|exact j.out _ q
   refine onW 0 opA hHeld ?_
   refine onW 1 (opB opA) hHeld ?_
   refine onW 2 (opB (opB opA)) hHeld ?_
   refine onW 3 (opB (opB (opB opA))) hHeld ?_
   refine ig (i:=4) (opC opA) (fun K G=>?_)
   go_simp
   (go_at_call 35;(with_reducible refine (J.out _ q).mono ?_);rintro _ w5 ⟨rfl,B⟩;replace q:=aA q B;clear B)
   first|refine G.out _ _ ?_ (fun hHeld=>?_)|(go_wp2_with fail;refine G.out _ _ ?_ (fun hHeld=>?_))
   ·(try dsimp only)
    first|exact j.out _ q
   clear G K
   try simp only [Act.put,List.setIfInBounds_toArray,List.set_cons_zero,List.set_cons_succ]
   refine onW 5 (opC (opB opA)) hHeld ?_
   refine onW 6 (opC (opB (opB opA))) hHeld ?_
   refine onW 7 (opC (opB (opB (opB opA)))) hHeld ?_
   refine onW 8 (opC (opC opA)) hHeld ?_
   refine onW 9 (opC (opC (opB opA))) hHeld ?_
   refine onW 10 (opC (opC (opB (opB opA)))) hHeld ?_
   refine onW 11 (opC (opC (opB (opB (opB opA))))) hHeld ?_
   refine ig (i:=12) (opC (opC (opC opA))) (fun K G=>?_)
   go_simp
   (go_at_call 37;(with_reducible refine (R.out _ q).mono ?_);rintro e5 w5 ⟨A5,n5,c5,rfl,o5,B⟩;have O5:=Hd o5.rd;clear o5;replace q:=aA q B;clear B)
   first|refine G.out _ _ ?_ (fun hHeld=>?_)|(go_wp2_with fail;refine G.out _ _ ?_ (fun hHeld=>?_))
   ·(try dsimp only)
    first|exact j.out _ q
   clear G K
   try simp only [Act.put,List.setIfInBounds_toArray,List.set_cons_zero,List.set_cons_succ]
   refine ig (i:=13) (opC (opC (opC (opB opA)))) (fun K G=>?_)
   go_simp
   (go_at_call 36;(with_reducible refine (Q.out _ q A5 n5 c5 O5.out).mono ?_);rintro _ w6 ⟨rfl,B⟩;replace q:=aA q B;clear B)
   first|refine G.out _ _ ?_ (fun hHeld=>?_)|(go_wp2_with fail;refine G.out _ _ ?_ (fun hHeld=>?_))
   ·(try dsimp only)
    first|exact j.out _ q
   clear G K
   try simp only [Act.put,List.setIfInBounds_toArray,List.set_cons_zero,List.set_cons_succ]
   refine onW 14 (opC (opC (opC (opB (opB opA))))) hHeld ?_
   refine onW 15 (opC (opC (opC (opB (opB (opB opA)))))) hHeld ?_
   refine onW 16 (opD opA) hHeld ?_
   refine onW 17 (opD (opB opA)) hHeld ?_
   refine onW 18 (opD (opB (opB opA))) hHeld ?_
   refine onW 20 (opD (opC opA)) hHeld ?_
   refine onW 21 (opD (opC (opB opA))) hHeld ?_
   refine ig (i:=19) (opD (opB (opB (opB opA)))) (fun K G=>?_)
   go_simp
   (go_at_call 39;(with_reducible refine (ax.out _ q).mono ?_);rintro e7 w7 ⟨A7,c7,rfl,o7,B⟩;have O7:=Hd o7.ints;clear o7;replace q:=aA q B;clear B)
   first|refine G.out _ _ ?_ (fun hHeld=>?_)|(go_wp2_with fail;refine G.out _ _ ?_ (fun hHeld=>?_))
   ·(try dsimp only)
    first|exact j.out _ q
   clear G K
   try simp only [Act.put,List.setIfInBounds_toArray,List.set_cons_zero,List.set_cons_succ]
   refine ig (i:=22) (opD (opC (opB (opB opA)))) (fun K G=>?_)
   go_simp
   (go_at_call 38;(with_reducible refine (av.out _ q A7 c7 O7.out).mono ?_);rintro _ w8 ⟨rfl,B⟩;replace q:=aA q B;clear B)
   first|refine G.out _ _ ?_ (fun hHeld=>?_)|(go_wp2_with fail;refine G.out _ _ ?_ (fun hHeld=>?_))
   ·(try dsimp only)
    first|exact j.out _ q
   clear G K
   try simp only [Act.put,List.setIfInBounds_toArray,List.set_cons_zero,List.set_cons_succ]
   refine onW 23 (opD (opC (opB (opB (opB opA))))) hHeld ?_
   refine onW 24 (opD (opC (opC opA))) hHeld ?_
   refine bZ 25 (opD (opC (opC (opB opA)))) hHeld ?_
   refine bZ 26 (opD (opC (opC (opB (opB opA))))) hHeld ?_
   refine bZ 27 (opD (opC (opC (opB (opB (opB opA)))))) hHeld ?_
   refine bZ 28 (opD (opC (opC (opC opA)))) hHeld ?_
   refine bZ 29 (opD (opC (opC (opC (opB opA))))) hHeld ?_
   refine bZ 30 (opD (opC (opC (opC (opB (opB opA)))))) hHeld ?_
   refine bZ 31 (opD (opC (opC (opC (opB (opB (opB opA))))))) hHeld ?_
   refine bZ 32 (opD (opD opA)) hHeld ?_
   refine onW 33 (opD (opD (opB opA))) hHeld ?_
   refine onW 34 (opD (opD (opB (opB opA)))) hHeld ?_
   refine wpAnyH_done (by kernel_rfl) ?_ _
   have HD:=Hd (aA u.out q)
   clear q x0 x1 x2 V H Z y1 Y y3 y4 y5 W y7 D j
   go_wp2_with fail
   go_ret
   exact ⟨aO HR.out,HD.out⟩
  have U:=Hd aF
  have HR:Hid (¬jB d x):=fun h=>U.out h.conns
  clear aF
  go_enter Tryz.func8,Tryz.ntmps8
  go_upto_region 1 with fail
  generalize (w.alloc (.cells (dv d) 36)).alloc (.cells #[.int .i64 x.net.inputs,.slice SA sn sc,.slice LA ln lc,.slice OA on oc,.slice BA bn bc,.slice CA cn cc,.slice PA pn pc,.slice RA rn rc] 46)=z at *
  obtain ⟨x0,x1,x2,V,H⟩:=cO au.out
  obtain ⟨Z,y1,Y,y3,y4,y5,W,y7,D⟩:=mK aw.out
  have j:Hid (∀w',Below z.heap.size z w'→(KD w' w.heap.size d (K8e w' (w.heap.size+1) (.int .i64 x.net.inputs) (.slice SA sn sc) (.slice LA ln lc) (.slice OA on oc) (.slice BA bn bc) (.slice CA cn cc) (.slice PA pn pc) (.slice RA rn rc)))):=fun v g=>⟨(g.cell (p:=⟨w.heap.size,0,none⟩) H).trans x0,(g.cell (p:=⟨w.heap.size,1,none⟩) H).trans x1,(g.cell (p:=⟨w.heap.size,2,none⟩) H).trans x2,(g.cell (p:=⟨w.heap.size,3,none⟩) H).trans V,(g.cell (p:=⟨w.heap.size+1,0,none⟩) D).trans Z,(g.cell (p:=⟨w.heap.size+1,1,none⟩) D).trans y1,(g.cell (p:=⟨w.heap.size+1,2,none⟩) D).trans Y,(g.cell (p:=⟨w.heap.size+1,3,none⟩) D).trans y3,(g.cell (p:=⟨w.heap.size+1,4,none⟩) D).trans y4,(g.cell (p:=⟨w.heap.size+1,5,none⟩) D).trans y5,(g.cell (p:=⟨w.heap.size+1,6,none⟩) D).trans W,(g.cell (p:=⟨w.heap.size+1,7,none⟩) D).trans y7⟩
  have q:=(Below.refl z.heap.size z).drew
  have J:=Hd (fun (v:World) (g:Below z.heap.size z v)=>(by have h:=kS x.net SA LA OA sn sc ln lc on oc x.blocks BA bn bc v (HN.out.below (aA u.out g)) (HB.out.below (aA u.out g)) aC.out;rwa [ae I.out] at h:Calls Tryz.prog 35 #[jE x.net SA LA OA sn sc ln lc on oc,.slice BA bn bc] v fun e w'=>e = .returned (.bool true)/\Below v.heap.size v w'))
  have R:=Hd (fun (v:World) (g:Below z.heap.size z v)=>mU x.net SA LA OA sn sc ln lc on oc x.blocks BA bn bc v (HN.out.below (aA u.out g)) (HB.out.below (aA u.out g)) I.out)
  have Q:=Hd (fun (v:World) (g:Below z.heap.size z v) (A:Option Addr) (n c:Nat) (h:RdC v v.heap.size (ah (eY x.net x.blocks)) (.slice A n c))=>(by have h:=kr x.conns (eY x.net x.blocks) CA A cn cc n c v (HC.out.below (aA u.out g)) h aL ap.out;rwa [bJ U.out] at h:Calls Tryz.prog 36 #[.slice CA cn cc,.slice A n c] v fun e w'=>e = .returned (.bool false)/\Below v.heap.size v w'))
  refine wp_region_held_drew (S:=(fun w'=>KD w' w.heap.size d (K8e w' (w.heap.size+1) (.int .i64 x.net.inputs) (.slice SA sn sc) (.slice LA ln lc) (.slice OA on oc) (.slice BA bn bc) (.slice CA cn cc) (.slice PA pn pc) (.slice RA rn rc)))) (by kernel_rfl) ?_ (fun hHeld=>?_)
  ·(try dsimp only)
   first|exact j.out _ q
  refine onW 0 opA hHeld ?_
  refine onW 1 (opB opA) hHeld ?_
  refine onW 2 (opB (opB opA)) hHeld ?_
  refine onW 3 (opB (opB (opB opA))) hHeld ?_
  refine ig (i:=4) (opC opA) (fun K G=>?_)
  go_simp
  (go_at_call 35;(with_reducible refine (J.out _ q).mono ?_);rintro _ w5 ⟨rfl,B⟩;replace q:=aA q B;clear B)
  first|refine G.out _ _ ?_ (fun hHeld=>?_)|(go_wp2_with fail;refine G.out _ _ ?_ (fun hHeld=>?_))
  ·(try dsimp only)
   first|exact j.out _ q
  clear G K
  try simp only [Act.put,List.setIfInBounds_toArray,List.set_cons_zero,List.set_cons_succ]
  refine onW 5 (opC (opB opA)) hHeld ?_
  refine onW 6 (opC (opB (opB opA))) hHeld ?_
  refine onW 7 (opC (opB (opB (opB opA)))) hHeld ?_
  refine onW 8 (opC (opC opA)) hHeld ?_
  refine onW 9 (opC (opC (opB opA))) hHeld ?_
  refine onW 10 (opC (opC (opB (opB opA)))) hHeld ?_
  refine onW 11 (opC (opC (opB (opB (opB opA))))) hHeld ?_
  refine ig (i:=12) (opC (opC (opC opA))) (fun K G=>?_)
  go_simp
  (go_at_call 37;(with_reducible refine (R.out _ q).mono ?_);rintro e5 w5 ⟨A5,n5,c5,rfl,o5,B⟩;have O5:=Hd o5.rd;clear o5;replace q:=aA q B;clear B)
  first|refine G.out _ _ ?_ (fun hHeld=>?_)|(go_wp2_with fail;refine G.out _ _ ?_ (fun hHeld=>?_))
  ·(try dsimp only)
   first|exact j.out _ q
  clear G K
  try simp only [Act.put,List.setIfInBounds_toArray,List.set_cons_zero,List.set_cons_succ]
  refine ig (i:=13) (opC (opC (opC (opB opA)))) (fun K G=>?_)
  go_simp
  (go_at_call 36;(with_reducible refine (Q.out _ q A5 n5 c5 O5.out).mono ?_);rintro _ w6 ⟨rfl,B⟩;replace q:=aA q B;clear B)
  first|refine G.out _ _ ?_ (fun hHeld=>?_)|(go_wp2_with fail;refine G.out _ _ ?_ (fun hHeld=>?_))
  ·(try dsimp only)
   first|exact j.out _ q
  clear G K
  try simp only [Act.put,List.setIfInBounds_toArray,List.set_cons_zero,List.set_cons_succ]
  refine onW 14 (opC (opC (opC (opB (opB opA))))) hHeld ?_
  refine onW 15 (opC (opC (opC (opB (opB (opB opA)))))) hHeld ?_
  refine bZ 16 (opD opA) hHeld ?_
  refine bZ 17 (opD (opB opA)) hHeld ?_
  refine bZ 18 (opD (opB (opB opA))) hHeld ?_
  refine bZ 19 (opD (opB (opB (opB opA)))) hHeld ?_
  refine bZ 20 (opD (opC opA)) hHeld ?_
  refine bZ 21 (opD (opC (opB opA))) hHeld ?_
  refine bZ 22 (opD (opC (opB (opB opA)))) hHeld ?_
  refine onW 23 (opD (opC (opB (opB (opB opA))))) hHeld ?_
  refine onW 24 (opD (opC (opC opA))) hHeld ?_
  refine bZ 25 (opD (opC (opC (opB opA)))) hHeld ?_
  refine bZ 26 (opD (opC (opC (opB (opB opA))))) hHeld ?_
  refine bZ 27 (opD (opC (opC (opB (opB (opB opA)))))) hHeld ?_
  refine bZ 28 (opD (opC (opC (opC opA)))) hHeld ?_
  refine bZ 29 (opD (opC (opC (opC (opB opA))))) hHeld ?_
  refine bZ 30 (opD (opC (opC (opC (opB (opB opA)))))) hHeld ?_
  refine bZ 31 (opD (opC (opC (opC (opB (opB (opB opA))))))) hHeld ?_
  refine bZ 32 (opD (opD opA)) hHeld ?_
  refine onW 33 (opD (opD (opB opA))) hHeld ?_
  refine onW 34 (opD (opD (opB (opB opA)))) hHeld ?_
  refine wpAnyH_done (by kernel_rfl) ?_ _
  have HD:=Hd (aA u.out q)
  clear q x0 x1 x2 V H Z y1 Y y3 y4 y5 W y7 D j
  go_wp2_with fail
  go_ret
  exact ⟨aO HR.out,HD.out⟩
 have I:=Hd aK
 have HR:Hid (¬jB d x):=fun h=>I.out h.pack
 clear aK
 go_enter Tryz.func8,Tryz.ntmps8
 go_upto_region 1 with fail
 generalize (w.alloc (.cells (dv d) 36)).alloc (.cells #[.int .i64 x.net.inputs,.slice SA sn sc,.slice LA ln lc,.slice OA on oc,.slice BA bn bc,.slice CA cn cc,.slice PA pn pc,.slice RA rn rc] 46)=z at *
 obtain ⟨x0,x1,x2,V,H⟩:=cO au.out
 obtain ⟨Z,y1,Y,y3,y4,y5,W,y7,D⟩:=mK aw.out
 have j:Hid (∀w',Below z.heap.size z w'→(KD w' w.heap.size d (K8e w' (w.heap.size+1) (.int .i64 x.net.inputs) (.slice SA sn sc) (.slice LA ln lc) (.slice OA on oc) (.slice BA bn bc) (.slice CA cn cc) (.slice PA pn pc) (.slice RA rn rc)))):=fun v g=>⟨(g.cell (p:=⟨w.heap.size,0,none⟩) H).trans x0,(g.cell (p:=⟨w.heap.size,1,none⟩) H).trans x1,(g.cell (p:=⟨w.heap.size,2,none⟩) H).trans x2,(g.cell (p:=⟨w.heap.size,3,none⟩) H).trans V,(g.cell (p:=⟨w.heap.size+1,0,none⟩) D).trans Z,(g.cell (p:=⟨w.heap.size+1,1,none⟩) D).trans y1,(g.cell (p:=⟨w.heap.size+1,2,none⟩) D).trans Y,(g.cell (p:=⟨w.heap.size+1,3,none⟩) D).trans y3,(g.cell (p:=⟨w.heap.size+1,4,none⟩) D).trans y4,(g.cell (p:=⟨w.heap.size+1,5,none⟩) D).trans y5,(g.cell (p:=⟨w.heap.size+1,6,none⟩) D).trans W,(g.cell (p:=⟨w.heap.size+1,7,none⟩) D).trans y7⟩
 have q:=(Below.refl z.heap.size z).drew
 have J:=Hd (fun (v:World) (g:Below z.heap.size z v)=>(by have h:=kS x.net SA LA OA sn sc ln lc on oc x.blocks BA bn bc v (HN.out.below (aA u.out g)) (HB.out.below (aA u.out g)) aC.out;rwa [bJ I.out] at h:Calls Tryz.prog 35 #[jE x.net SA LA OA sn sc ln lc on oc,.slice BA bn bc] v fun e w'=>e = .returned (.bool false)/\Below v.heap.size v w'))
 refine wp_region_held_drew (S:=(fun w'=>KD w' w.heap.size d (K8e w' (w.heap.size+1) (.int .i64 x.net.inputs) (.slice SA sn sc) (.slice LA ln lc) (.slice OA on oc) (.slice BA bn bc) (.slice CA cn cc) (.slice PA pn pc) (.slice RA rn rc)))) (by kernel_rfl) ?_ (fun hHeld=>?_)
 ·(try dsimp only)
  first|exact j.out _ q
 refine onW 0 opA hHeld ?_
 refine onW 1 (opB opA) hHeld ?_
 refine onW 2 (opB (opB opA)) hHeld ?_
 refine onW 3 (opB (opB (opB opA))) hHeld ?_
 refine ig (i:=4) (opC opA) (fun K G=>?_)
 go_simp
 (go_at_call 35;(with_reducible refine (J.out _ q).mono ?_);rintro _ w5 ⟨rfl,B⟩;replace q:=aA q B;clear B)
 first|refine G.out _ _ ?_ (fun hHeld=>?_)|(go_wp2_with fail;refine G.out _ _ ?_ (fun hHeld=>?_))
 ·(try dsimp only)
  first|exact j.out _ q
 clear G K
 try simp only [Act.put,List.setIfInBounds_toArray,List.set_cons_zero,List.set_cons_succ]
 refine onW 5 (opC (opB opA)) hHeld ?_
 refine bZ 6 (opC (opB (opB opA))) hHeld ?_
 refine bZ 7 (opC (opB (opB (opB opA)))) hHeld ?_
 refine bZ 8 (opC (opC opA)) hHeld ?_
 refine bZ 9 (opC (opC (opB opA))) hHeld ?_
 refine bZ 10 (opC (opC (opB (opB opA)))) hHeld ?_
 refine bZ 11 (opC (opC (opB (opB (opB opA))))) hHeld ?_
 refine bZ 12 (opC (opC (opC opA))) hHeld ?_
 refine bZ 13 (opC (opC (opC (opB opA)))) hHeld ?_
 refine onW 14 (opC (opC (opC (opB (opB opA))))) hHeld ?_
 refine onW 15 (opC (opC (opC (opB (opB (opB opA)))))) hHeld ?_
 refine bZ 16 (opD opA) hHeld ?_
 refine bZ 17 (opD (opB opA)) hHeld ?_
 refine bZ 18 (opD (opB (opB opA))) hHeld ?_
 refine bZ 19 (opD (opB (opB (opB opA)))) hHeld ?_
 refine bZ 20 (opD (opC opA)) hHeld ?_
 refine bZ 21 (opD (opC (opB opA))) hHeld ?_
 refine bZ 22 (opD (opC (opB (opB opA)))) hHeld ?_
 refine onW 23 (opD (opC (opB (opB (opB opA))))) hHeld ?_
 refine onW 24 (opD (opC (opC opA))) hHeld ?_
 refine bZ 25 (opD (opC (opC (opB opA)))) hHeld ?_
 refine bZ 26 (opD (opC (opC (opB (opB opA))))) hHeld ?_
 refine bZ 27 (opD (opC (opC (opB (opB (opB opA)))))) hHeld ?_
 refine bZ 28 (opD (opC (opC (opC opA)))) hHeld ?_
 refine bZ 29 (opD (opC (opC (opC (opB opA))))) hHeld ?_
 refine bZ 30 (opD (opC (opC (opC (opB (opB opA)))))) hHeld ?_
 refine bZ 31 (opD (opC (opC (opC (opB (opB (opB opA))))))) hHeld ?_
 refine bZ 32 (opD (opD opA)) hHeld ?_
 refine onW 33 (opD (opD (opB opA))) hHeld ?_
 refine onW 34 (opD (opD (opB (opB opA)))) hHeld ?_
 refine wpAnyH_done (by kernel_rfl) ?_ _
 have HD:=Hd (aA u.out q)
 clear q x0 x1 x2 V H Z y1 Y y3 y4 y5 W y7 D j
 go_wp2_with fail
 go_ret
 exact ⟨aO HR.out,HD.out⟩
end Go.Proofs.YtofihjoanjkdmaaGreat
