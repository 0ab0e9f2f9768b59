/- Costs of nodes by history and use, in both programs (printed by mki1.py). -/
import Derived.Test.YtofihjoanjkdmaaGreatBrow
import Derived.Test.YtofihjoanjkdmaaGreatGroP
import Derived.Test.YtofihjoanjkdmaaGreatHeldW
import Derived.Test.YtofihjoanjkdmaaGreatSepB
namespace Go.Proofs.YtofihjoanjkdmaaGreat
set_option maxHeartbeats 2000000
set_option maxRecDepth 100000
open Go.RowKit
theorem qw(a b v:Int)(h:(if b<a then b else a)=v):Go.Builtin.min_ #[3,3] 3 #[.int .i64 a,.int .i64 b]=pure (.int .i64 v):=by
 rw[←h];rfl
theorem yT(HA UA:Oh)(n hc uc:Nat)(H U:List Int)(p:Int)(w:World)(hH:bT w HA n H)(hU:bT w UA n U)(hn:n<=828)(hb:∀x:Nat,x<n→0<=H[x]?.getD 0/\H[x]?.getD 0<=4800)(hu:∀x:Nat,0<=U[x]?.getD 0/\U[x]?.getD 0<=100)(ae:0<=p)(hp1:p<=60) :
  Calls Tryz.prog 192 #[.slice HA n hc,.slice UA n uc,.int .i64 p] w fun e w'=>∃A c,e=.returned (.slice A n c)/\Own w.heap.size w' A n c (shc H U p)/\Below w.heap.size w w':=by
 obtain⟨HH,HU,af,Z⟩:=hd4 hH hU hb hu;have ak:=Hd (fun(k:Nat) (hk:k<n)=>EJ H U p (x:=k) (by rw[hH.1];exact hk));have K:Hv ((shc H U p).length=n):=Hd<|by show _=_;rw[EI,hH.1]
 clear hH hU hb hu;go_enter Tryz.func192,Tryz.ntmps192;go_wp2
 go_loopw[7,12] (fun v i wr=>∃(k:Nat) (A:Oh) (c:Nat),k<=n/\v=.slice A k c/\i=.int .i64 (k:Int)/\aD w wr [.cel (aI ((shc H U p).take k)) (.slice A k c)]) (fun _ i _=>n-(intOf i).toNat)
 ·exact⟨0,none,0,by omega,rfl,rfl,(aD.refl w).pushNil _ _⟩
 obtain⟨k,A,c,hk,rfl,rfl,hs⟩:=hrel;have B:=Hd hs;clear hs;by_cases g:k<n
 ·have ad:=dT (by omega:k<n);obtain⟨b,o,G,hb,hc⟩:=HH.1.2 (by omega);obtain⟨b',o',R,j,q⟩:=HU.1.2 (by omega);have ck:=hc k g;have aj:=q k g;have c1:=(B.1.bel.cell (p:=⟨b,o+k,none⟩) hb).trans (hc k g);have c2:=(B.1.bel.cell (p:=⟨b',o'+k,none⟩) j).trans (q k g);have l1:=aJ B.1.bel hb;have l2:=aJ B.1.bel j;have au:=af.1 k g;have V:=Z.1 k
  have Q:Hv ((shc H U p).take (k+1)=(shc H U p).take k++[min 100000 (10+H[k]?.getD 0+p*U[k]?.getD 0)]):=Hd<|by
   show _=_;rw[bF (z:=0) (by rw[K.1];exact g),ak.1 k g]
  generalize H[k]?.getD 0=h at *;generalize U[k]?.getD 0=u at *;generalize (shc H U p).take k=xs at *;have I:=(iB ae hp1 V.1 V.2);obtain⟨ah,ag⟩:=hd2 G R;obtain⟨z,W⟩:∃z,p*u=z:=⟨_,rfl⟩;have wz:IntKind.i64.wrap (p*u)=z:=by rw[W];exact IntWalk.i64_in _ (by rw[W]at I;omega)
  rw[W]at I Q;obtain⟨v,hv⟩:∃v,min 100000 (10+h+z)=v:=⟨_,rfl⟩;rw[hv]at Q;have J:(if 10+h+z<100000 then 10+h+z else 100000)=v:=by rw[←hv];split <;> omega
  have hm:=qw 100000 (10+h+z) v J;obtain⟨i0,i1⟩:=ib (by omega:k<n);clear hc q ck aj W hv J G R hb j;obtain rfl:=ah.1;obtain rfl:=ag.1
  go_wp2_with (at_builtin;first|(refine wpList_min rfl _ _ rfl _ _ _ rfl rfl rfl ?_)|(refine bP rfl _ _ rfl _ (B.1.alloc _) 0 A k c xs v _ (0,0) rfl rfl rfl (aG _ _) (by omega) ?_;intro g9 cap w9 S9 ax;have Y:=Hd S9;clear S9))
  go_roundw
  ·exact⟨k+1,_,_,by omega,rfl,by go_num,by rw[Q.1];exact Y.1⟩
  simp[intOf];omega
 have D:k=n:=by omega
 have ad:=dF (by omega:n<=k);have Q:Hv ((shc H U p).take k=shc H U p):=Hd<|by show _=_;rw[D];exact List.take_of_length_le (by rw[K.1];exact Nat.le_refl _)
 subst D;go_wp2;go_ret;have hs:=B.1;rw[Q.1]at hs;exact⟨_,_,rfl,hs.owned 0 rfl,hs.bel⟩
theorem EY(HA UA:Oh)(n hc uc:Nat)(H U:List Int)(p:Int)(w:World)(hH:bT w HA n H)(hU:bT w UA n U)(hn:n<=828)(hb:∀x:Nat,x<n→0<=H[x]?.getD 0/\H[x]?.getD 0<=4800)(hu:∀x:Nat,0<=U[x]?.getD 0/\U[x]?.getD 0<=100)(ak:0<=p)(hp1:p<=60) :
  Calls Tryz.prog 168 #[.slice HA n hc,.slice UA n uc,.int .i64 p] w fun e w'=>∃A c,e=.returned (.slice A n c)/\Own w.heap.size w' A n c (shc H U p)/\Below w.heap.size w w':=by
 obtain⟨HH,HU,am,ah⟩:=hd4 hH hU hb hu;have aq:=Hd (fun(k:Nat) (hk:k<n)=>EJ H U p (x:=k) (by rw[hH.1];exact hk));have Q:Hv ((shc H U p).length=n):=Hd<|by show _=_;rw[EI,hH.1]
 clear hH hU hb hu;go_enter Tryz.func168,Tryz.ntmps168;go_wp2
 go_loopw[7,8] (fun v i wr=>∃(k:Nat) (A:Oh) (c:Nat),k<=n/\v=.slice A k c/\i=.int .i64 (k:Int)/\aD w wr [.cel (aI ((shc H U p).take k)) (.slice A k c)]) (fun _ i _=>n-(intOf i).toNat)
 ·exact⟨0,some ⟨w.heap.size,0,none⟩,0,by omega,rfl,rfl,(aD.refl w).pushNew _ _⟩
 obtain⟨k,A,c,hk,rfl,rfl,hs⟩:=hrel;have B:=Hd hs;clear hs;by_cases g:k<n
 ·have aj:=dT (by omega:k<n);obtain⟨b,o,J,hb,hc⟩:=HH.1.2 (by omega);obtain⟨Z,o',V,q,D⟩:=HU.1.2 (by omega);have ck:=hc k g;have W:=D k g;have c1:=(B.1.bel.cell (p:=⟨b,o+k,none⟩) hb).trans (hc k g);have c2:=(B.1.bel.cell (p:=⟨Z,o'+k,none⟩) q).trans (D k g);have l1:=aJ B.1.bel hb;have l2:=aJ B.1.bel q;have aA:=am.1 k g;have Y:=ah.1 k
  have R:Hv ((shc H U p).take (k+1)=(shc H U p).take k++[min 100000 (10+H[k]?.getD 0+p*U[k]?.getD 0)]):=Hd<|by
   show _=_;rw[bF (z:=0) (by rw[Q.1];exact g),aq.1 k g]
  generalize H[k]?.getD 0=h at *;generalize U[k]?.getD 0=u at *;generalize (shc H U p).take k=xs at *;have K:=(iB ak hp1 Y.1 Y.2);obtain⟨ap,ao⟩:=hd2 J V;obtain⟨z,hz⟩:∃z,p*u=z:=⟨_,rfl⟩;have wz:IntKind.i64.wrap (p*u)=z:=by rw[hz];exact IntWalk.i64_in _ (by rw[hz]at K;omega)
  rw[hz]at K R;obtain⟨v,G⟩:∃v,min 100000 (10+h+z)=v:=⟨_,rfl⟩;rw[G]at R;have ai:(if 10+h+z<100000 then 10+h+z else 100000)=v:=by rw[←G];split <;> omega
  have hm:=qw 100000 (10+h+z) v ai;obtain⟨i0,i1⟩:=ib (by omega:k<n);have j:Hv (∀w',Below w.heap.size w w'→(w'.cell? ⟨b,o+k,none⟩=some (.int .i64 h)/\w'.cell? ⟨Z,o'+k,none⟩=some (.int .i64 u))):=Hd<|fun v G=>⟨(G.cell (p:=⟨b,o+k,none⟩) hb).trans ck,(G.cell (p:=⟨Z,o'+k,none⟩) q).trans W⟩
  have aK:IntKind.i64.wrap (10+h)=10+h:=IntWalk.i64_in _ (by omega);have aE:IntKind.i64.wrap (10+h+z)=10+h+z:=IntWalk.i64_in _ (by omega);clear hc D ck W hz G J V hb q;obtain rfl:=ap.1;obtain rfl:=ao.1;have hS:=Hd B.1.drew;have hD:=hS.1.bel;go_upto_region 5 with fail
  go_region_held3 (fun w'=>w'.cell? ⟨b,o+k,none⟩=some (.int .i64 h)/\w'.cell? ⟨Z,o'+k,none⟩=some (.int .i64 u))
   (first|with_reducible exact j.1 _ hD|with_reducible exact j.1 _ (aB B.1.bel _).drew)
   ((first
    | (refine iH rfl _ _ (by rfl) _ (hS.1.alloc _) 0 A k c xs v _ (0,0) rfl (by rfl) (by rfl) (aG _ _) (by omega) ?_;intro g9 cap w9 S9 al;have af:=Hd S9;replace hD:=S9.bel;clear S9 al)))
  go_wp2;go_roundw
  ·exact⟨k+1,_,_,by omega,rfl,by go_num,by rw[R.1];exact af.1⟩
  simp[intOf];omega
 have I:k=n:=by omega
 have aj:=dF (by omega:n<=k);have R:Hv ((shc H U p).take k=shc H U p):=Hd<|by show _=_;rw[I];exact List.take_of_length_le (by rw[Q.1];exact Nat.le_refl _)
 subst I;go_wp2;go_ret;have hs:=B.1;rw[R.1]at hs;exact⟨_,_,rfl,hs.owned 0 rfl,hs.bel⟩
end Go.Proofs.YtofihjoanjkdmaaGreat
