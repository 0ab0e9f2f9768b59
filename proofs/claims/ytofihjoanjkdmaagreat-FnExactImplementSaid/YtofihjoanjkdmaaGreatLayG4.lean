/- Connections in the program: the same (printed by mksc.py). -/
import Derived.Test.YtofihjoanjkdmaaGreatLayG2
namespace Go.Proofs.YtofihjoanjkdmaaGreat
set_option maxHeartbeats 2000000
set_option maxRecDepth 100000
open Go.RowKit
theorem IC(d:Dev)(t p:Int)(w:World) :
  Calls Tryz.prog 219 #[.agg (dv d),.int .i64 t,.int .i64 p] w fun e w'=>e=.returned (.int .i64 (qB d t p))/\Below w.heap.size w w':=by
 have G:Hv (qB d t p=if ai d t=true/\0<=p/\p<jK (ah d t)then t*ag d+p else -1):=Hd<|rfl
 go_enter Tryz.func219,Tryz.ntmps219;go_wp2_with fail
 cases ht:ai d t with
 | false =>
  refine(jS ht _).mono ?_;rintro e w1 ⟨rfl,j⟩;have I:=Hd (aA (aB (Below.refl _ _) _) j);have H:=Hd ht;clear j ht;go_wp2;go_ret
  exact⟨aQ (by rw[G.1,if_neg (by rw[H.1];simp)]),I.1⟩
 | true =>
  refine(jS ht _).mono ?_;rintro e w1 ⟨rfl,j⟩;have I:=Hd (aA (aB (Below.refl _ _) _) j);have Y:=Hd j;obtain⟨hcc,q⟩:=az j;have D:=j.size;simp only[World.size_alloc]at D;obtain⟨hd,u,Z⟩:=aP.1 ht;have ae:=eu hd;have hT:=ak hd;have hp:=fT hd;have W:=uN d t;have HM:=Hd (iB u (show t<=35 by omega) (show 0<=ag d by omega) hp.2);obtain⟨H,HD⟩:=hd2 ht hd;clear j ht hd;go_wp2_with fail;refine(lw d t _ HD.1 u (by omega)).mono ?_;rintro e w2 ⟨rfl,z⟩;have J:=Hd (aA I.1 z);have D2:=Hd (aA Y.1 z);have aj:=z.size;clear z hcc q;obtain⟨hcc,q⟩:=az D2.1;generalize V:ah d t=K at *;have HK:=Hd V;clear V
  go_wp2_with (go_at_call 258;refine(x8 _ _).mono ?_;rintro e w' ⟨rfl,rfl⟩)
  generalize U:jK K=Q at *;have HQ:=Hd U;clear U;have e3:IntKind.i64.wrap (Q-1)=Q-1:=IntWalk.i64_in _ (by omega)
  cases g:inR p 0 (Q-1)with
  | false =>
   have B:=Hd g;clear g
   go_wp2_with (go_at_call 93;refine(bf B.1 _).mono ?_;rintro e w' ⟨rfl,rfl⟩)
   go_ret
   exact⟨aQ (by rw[G.1,if_neg];rintro⟨_,h0,h1⟩;have:=uT.1 B.1;omega),J.1⟩
  | true =>
   have B:=Hd g;have hi:=aR.1 g;clear g
   go_wp2_with (go_at_call 93;refine(bf B.1 _).mono ?_;rintro e w' ⟨rfl,rfl⟩)
   refine(iJ d _ (by omega) (by omega)).mono ?_;rintro e w3 ⟨rfl,R⟩;have B3:=Hd (aA J.1 R);have hM:=HM.1;clear R hcc q e3;go_wp2;go_ret;exact⟨aQ (by rw[G.1,if_pos ⟨H.1,by omega,by omega⟩]),B3.1⟩
theorem yx(d:Dev)(place:List Int)(N a b:Int)(ss:List aL)(PA SA:Oh)(pn pc m q:Nat)(w:World)(hp:bT w PA pn place)(ak:pn<=1048576) :
  Calls Tryz.prog 133 #[.agg (dv d),.slice PA pn pc,.agg #[.int .i64 N,.int .i64 a,.int .i64 b,.slice SA m q]] w fun e w'=>e=.returned (.int .i64 (dN d place ⟨N,⟨a,b⟩,ss⟩))/\Below w.heap.size w w':=by
 have HP:=Hd hp;have u:dN d place ⟨N,⟨a,b⟩,ss⟩=if 0<=a/\a<(place.length:Int)then fB d (place[a.toNat]?.getD 0) b else -1:=rfl
 rw[hp.1]at u;clear hp;have j:=Hd (aB (aB (Below.refl w.heap.size w) (.cells (dv d) 36)) (.cells #[.int .i64 N,.int .i64 a,.int .i64 b,.slice SA m q] 158));have hx:=dP (.cells #[.int .i64 N,.int .i64 a,.int .i64 b,.slice SA m q] 158) (aG w (.cells (dv d) 36));have g:=aG (w.alloc (.cells (dv d) 36)) (.cells #[.int .i64 N,.int .i64 a,.int .i64 b,.slice SA m q] 158);simp only[World.size_alloc]at g;obtain⟨I,D⟩:=hd2 hx g;clear hx g
 cases hr:inR a 0 ((pn:Int)-1)with
 | false =>
  have K:Hv (dN d place ⟨N,⟨a,b⟩,ss⟩=-1):=Hd<|by show _=_;rw[u,if_neg fun h=>by rw[aR.2 (by omega)]at hr;cases hr]
  have Q:=Hd hr;clear hr u;go_enter Tryz.func133,Tryz.ntmps133;go_upto_region 1 with fail;generalize (w.alloc (.cells (dv d) 36)).alloc (.cells #[.int .i64 N,.int .i64 a,.int .i64 b,.slice SA m q] 158)=G at *;have hx:=I.1;have g:=D.1;obtain⟨Y,x1,V,W⟩:=cs4 hx;obtain⟨y0,Z,y2,y3⟩:=cs4 g;have lx:=aH hx;have ly:=aH g;clear hx g;go_wp2_with fail;refine(aM a 0 ((pn:Int)-1) _).mono ?_;rw[Q.1];rintro _ w1 ⟨rfl,rfl⟩;go_wp2;go_ret
  exact⟨aQ K.1.symm,j.1⟩
 | true =>
  have ha:=aR.1 hr;obtain⟨X,rfl⟩:∃X:Nat,a=(X:Int):=⟨a.toNat,by omega⟩;have hX:X<pn:=by omega
  rw[if_pos ⟨by omega,by omega⟩,Int.toNat_natCast]at u;obtain⟨bp,op,rfl,B,z⟩:=HP.1.2 (by omega);have cp:=(j.1.cell (p:=⟨bp,op+X,none⟩) B).trans (z X hX);have J:=aJ j.1 B;generalize place[X]?.getD 0=t at *;obtain⟨K,Q⟩:=hd2 u hr;have iX:(X:Int)<(pn:Int):=by omega
  clear hr u z ha;go_enter Tryz.func133,Tryz.ntmps133;go_upto_region 1 with fail;generalize (w.alloc (.cells (dv d) 36)).alloc (.cells #[.int .i64 N,.int .i64 (X:Int),.int .i64 b,.slice SA m q] 158)=G at *;have hx:=I.1;have g:=D.1;obtain⟨Y,x1,V,W⟩:=cs4 hx;obtain⟨y0,Z,y2,y3⟩:=cs4 g;have lx:=aH hx;have ly:=aH g;clear hx g;go_wp2_with fail;refine(aM (X:Int) 0 ((pn:Int)-1) _).mono ?_;rw[Q.1];rintro _ w1 ⟨rfl,rfl⟩;have U:=Hd (fun(x:Sub G)=>x9 d t b x.v);go_upto_region 3 with fail;have H:=dB G;have R:=au G;refine wpB G ?_
  repeat(go_big_quiet_step ((first
   | (go_at_call 224;with_reducible exact aV (U.1 _)))))
  refine wpQuiet_nil ?_;rintro _ ⟨⟨w5,hD⟩,rfl⟩;clear H R;have HD:=Hd (aA j.1 hD);clear hD Y x1 V W y0 Z y2 y3 lx ly cp J;go_wp2;go_ret;exact⟨aQ K.1.symm,HD.1⟩
theorem uX(d:Dev)(place:List Int)(N a b:Int)(ss:List aL)(PA SA:Oh)(pn pc m V:Nat)(w:World)(hp:bT w PA pn place)(hs:RdC w w.heap.size (aZ ss) (.slice SA m V))(bn:pn<=1048576)(hm:m<=1048576) :
  Calls Tryz.prog 131 #[.agg (dv d),.slice PA pn pc,.agg #[.int .i64 N,.int .i64 a,.int .i64 b,.slice SA m V]] w fun e w'=>(eZ d place ⟨N,⟨a,b⟩,ss⟩/\(∃A c,e=.returned (.slice A m c)/\Own w.heap.size w' A m c (eD d place ⟨N,⟨a,b⟩,ss⟩))∨¬eZ d place ⟨N,⟨a,b⟩,ss⟩/\e=.returned (.slice none 0 0))/\Below w.heap.size w w':=by
 obtain⟨HP,ay⟩:=hd2 hp hs;have I:Hv (ss.length=m):=Hd<|hs.pinN
 clear hp hs;have Q:=Hd (aB (aB (Below.refl w.heap.size w) (.cells (dv d) 36)) (.cells #[.int .i64 N,.int .i64 a,.int .i64 b,.slice SA m V] 158));have hx:=dP (.cells #[.int .i64 N,.int .i64 a,.int .i64 b,.slice SA m V] 158) (aG w (.cells (dv d) 36));have K:=aG (w.alloc (.cells (dv d) 36)) (.cells #[.int .i64 N,.int .i64 a,.int .i64 b,.slice SA m V] 158);simp only[World.size_alloc]at K;obtain⟨ad,aQ⟩:=hd2 hx K;clear hx K;go_enter Tryz.func131,Tryz.ntmps131;go_upto_region 1 with fail;generalize (w.alloc (.cells (dv d) 36)).alloc (.cells #[.int .i64 N,.int .i64 a,.int .i64 b,.slice SA m V] 158)=W9 at *;have hx:=ad.1;have K:=aQ.1;have x0:=aC (k:=0) hx rfl;obtain⟨y0,y1,y2,y3⟩:=cs4 K;have lx:=aH hx;have ly:=aH K;clear hx K;go_wp2_with fail;clear x0 y0 y1 y2 y3 lx ly
 go_loopw[7,14] (fun v i wr=>∃(k:Nat) (A:Oh) (c:Nat),k<=m/\i=.int .i64 (k:Int)/\v=.slice A k c/\aD W9 wr [.cel (aI ((ss.take k).map (df d place))) (.slice A k c)]/\∀j,j<k→0<=df d place (ss[j]?.getD aL.zero)) (fun _ i _=>m-(intOf i).toNat)
 ·exact⟨0,none,0,by omega,rfl,rfl,(aD.refl W9).pushNil 3 1,fun j hj=>by omega⟩
 obtain⟨k,A1,c1,hk,rfl,rfl,hs,H⟩:=hrel;obtain⟨HS,q⟩:=hd2 hs H;have B:=Hd (aA Q.1 hs.bel);clear hs H;by_cases aE:k<m
 ·have ax:=dT (by omega:k<m);have u:k<ss.length:=by rw[I.1];exact aE
  obtain⟨bs,os,ag,J,d0,d1⟩:=ay.1.pin (k:=k) u;have aw:=Hd ag;have am:=aJ B.1 J;rw[←B.1.cell (p:=⟨bs,os+k*2,none⟩) J]at d0;rw[←B.1.cell (p:=⟨bs,os+k*2+1,none⟩) J]at d1;have HG:Hv (0<=df d place (ss[k]?.getD aL.zero)→∀j,j<k+1→0<=df d place (ss[j]?.getD aL.zero)):=Hd<|fun h=>fQ q.1 h
  have g:Hv (¬0<=df d place (ss[k]?.getD aL.zero)→¬eZ d place ⟨N,⟨a,b⟩,ss⟩):=Hd<|fun h h'=>h (by rw[List.getElem?_eq_getElem u];exact h' _ (List.getElem_mem u))
  have G:=Hd (show(ss.take (k+1)).map (df d place)=(ss.take k).map (df d place)++[df d place (ss[k]?.getD aL.zero)] from by rw[bF (z:=aL.zero) u,List.map_append];rfl);clear u ag;obtain rfl:=aw.1;generalize ss[k]?.getD aL.zero=p at *;obtain⟨x,y⟩:=p;simp only at d0 d1;have U:df d place ⟨x,y⟩=if 0<=x/\x<(place.length:Int)then qB d (place[x.toNat]?.getD 0) y else -1:=rfl
  rw[HP.1.1]at U;obtain⟨i0,i1⟩:=ib (by omega:k<m);have HA:=Hd (HS.1.alloc (.cells #[.int .i64 x,.int .i64 y] 100));obtain⟨q0,q1,lq⟩:=iC (aG wr (.cells #[.int .i64 x,.int .i64 y] 100));go_upto_region 5 with fail;clear d0 d1 am;generalize wr.alloc (.cells #[.int .i64 x,.int .i64 y] 100)=W6 at *;have D:=Hd (aA Q.1 HA.1.bel);obtain⟨x0,x1,x2,x3,lx⟩:=bA (aF HA.1.bel ad.1)
  cases hr:inR x 0 ((pn:Int)-1)with
  | false =>
   have aO:df d place ⟨x,y⟩=-1:=by rw[U,if_neg fun h=>by rw[aR.2 (by omega)]at hr;cases hr]
   have Y:=Hd (g.1 (by omega));have H1:=Hd hr;clear hr U aO HG g G;go_wp2_with fail;refine(aM x 0 ((pn:Int)-1) _).mono ?_;rw[H1.1];rintro _ w1 ⟨rfl,rfl⟩;clear x0 x1 x2 x3 lx q0 q1 lq;go_wp2;go_ret
   exact⟨.inr ⟨Y.1,rfl⟩,D.1⟩
  | true =>
   have ha:=aR.1 hr;obtain⟨X,rfl⟩:∃X:Nat,x=(X:Int):=⟨x.toNat,by omega⟩;have hX:X<pn:=by omega
   rw[if_pos ⟨by omega,by omega⟩,Int.toNat_natCast]at U;obtain⟨bp,op,af,W,ae⟩:=HP.1.2 (by omega);have aN:=Hd af;have cp:=(D.1.cell (p:=⟨bp,op+X,none⟩) W).trans (ae X hX);have ar:=aJ D.1 W;clear af;obtain rfl:=aN.1;generalize place[X]?.getD 0=t at *;obtain⟨a0,H1⟩:=hd2 U hr;have iX:(X:Int)<(pn:Int):=by omega
   clear hr U ae ha;go_wp2_with fail;refine(aM (X:Int) 0 ((pn:Int)-1) _).mono ?_;rw[H1.1];rintro _ w1 ⟨rfl,rfl⟩;have aU:=Hd (fun(x:Sub W6)=>IC d t y x.v);go_upto_region 7 with fail;have Z:=dB W6;have aq:=au W6;refine wpB W6 ?_
   repeat(go_big_quiet_step ((first
    | (go_at_call 219;with_reducible exact aV (aU.1 _)))))
   refine wpQuiet_nil ?_;rintro _ ⟨⟨w5,hD⟩,rfl⟩;clear Z aq;have aK:=Hd (HA.1.below hD);have aX:=Hd (aA D.1 hD);clear hD x0 x1 x2 x3 lx q0 q1 lq cp ar;rw[a0.1]at HG g G;generalize qB d t y=z at *;by_cases hz:0<=z
   ·have dz:decide (z<0)=false:=decide_eq_false (by omega);have aP:=Hd (HG.1 hz);clear HG g
    go_wp2_with (at_builtin;refine bP rfl _ _ rfl _ (aK.1.alloc _) 0 A1 k c1 ((ss.take k).map (df d place)) z _ (0,0) rfl rfl rfl (aG _ _) (by omega) ?_;intro g9 cap w9 S9 az;have al:=Hd S9;clear S9 az)
    go_roundw
    ·exact⟨k+1,_,_,by omega,by go_num,rfl,by rw[G.1];exact al.1,aP.1⟩
    simp[intOf];omega
   have dz:decide (z<0)=true:=decide_eq_true (by omega);have Y:=Hd (g.1 (by omega));clear HG g G;go_wp2;go_ret;exact⟨.inr ⟨Y.1,rfl⟩,aX.1⟩
 have R:k=m:=by omega
 have ax:=dF (by omega:m<=k)
 have Y:Hv (eZ d place ⟨N,⟨a,b⟩,ss⟩):=Hd<|fun p hp=>by
  obtain⟨j,hj,rfl⟩:=List.getElem_of_mem hp;have h:=q.1 j (by rw[R,←I.1];exact hj);rwa[List.getElem?_eq_getElem hj]at h
 have HD:Hv (aD W9 wr [.cel (aI (eD d place ⟨N,⟨a,b⟩,ss⟩)) (.slice A1 m c1)]):=Hd<|by
  have h:=HS.1;rwa[R,List.take_of_length_le (by rw[I.1];exact Nat.le_refl _)]at h
 subst R;clear HS q;go_wp2;go_ret;exact⟨.inl ⟨Y.1,_,_,rfl,(HD.1.owned 0 rfl).more Q.1.size⟩,B.1⟩
end Go.Proofs.YtofihjoanjkdmaaGreat
