/- Wires and ways in a route in the reference (printed by mkway.py). -/
import Derived.Test.YtofihjoanjkdmaaGreatLayBd
import Derived.Test.YtofihjoanjkdmaaGreatLayDQ
import Derived.Test.YtofihjoanjkdmaaGreatLayS13
import Derived.Test.YtofihjoanjkdmaaGreatLayS4
namespace Go.Proofs.YtofihjoanjkdmaaGreat
set_option maxHeartbeats 8000000
set_option maxRecDepth 100000
open Go.RowKit
theorem zJ (r:Rou) (NA FA:Option Addr) (g nc fc k:Nat) (w:World) (hn:dE w NA g r.nodes) (hf:dE w FA g r.from_) (hb:rq r g) (hk:k<g) (bj:g<=1048576) :
  Calls Tryz.prog 137 #[.agg #[.slice NA g nc,.slice FA g fc],.int .i64 (k:Int)] w fun e w'=>∃A n c,e = .returned (.slice A n c)/\Own w.heap.size w' A n c (fI r k)/\Below w.heap.size w w':=by
 have ag:=Hd hb
 obtain ⟨bn,D,rfl,J,al⟩:=hn.2 (by omega)
 obtain ⟨bf,u,rfl,aj,ai⟩:=hf.2 (by omega)
 have ah:Hid (∀k,k<g→∀v,Below w.heap.size w v→v.cell? ⟨bn,D+k,none⟩=some (.int .i64 (r.nodes[k]?.getD 0))):=fun k hk v hv=>(hv.cell (p:=⟨bn,D+k,none⟩) J).trans (al k hk)
 have aH:Hid (∀k,k<g→∀v,Below w.heap.size w v→v.cell? ⟨bf,u+k,none⟩=some (.int .i64 (r.from_[k]?.getD 0))):=fun k hk v hv=>(hv.cell (p:=⟨bf,u+k,none⟩) aj).trans (ai k hk)
 clear al ai hn hf hb
 have B:=Hd (aD (Below.refl w.heap.size w) (.cells #[.slice (some ⟨bn,D,none⟩) g nc,.slice (some ⟨bf,u,none⟩) g fc] 114))
 have ar:=Hd (aI w (.cells #[.slice (some ⟨bn,D,none⟩) g nc,.slice (some ⟨bf,u,none⟩) g fc] 114))
 have d0:((g:Int) != (g:Int))=false:=by simp
 obtain ⟨i0,i1⟩:=ib (by omega:k<g)
 go_enter Tryz.func137,Tryz.ntmps137
 go_upto_region 1 with fail
 generalize w.alloc (.cells #[.slice (some ⟨bn,D,none⟩) g nc,.slice (some ⟨bf,u,none⟩) g fc] 114)=K at *
 obtain ⟨y0,y1,ly⟩:=fZ (ar.out)
 have k0:decide ((k:Int)<0)=false:=by simp
 have k1:decide ((g:Int)<=(k:Int))=false:=by simp;omega
 have aE:decide ((k:Int)≥(g:Int))=false:=by simp;omega
 have k2:decide (g<=k)=false:=decide_eq_false (by omega)
 have cn:=ah.out k (by omega) _ B.out
 have ap:=aK B.out J
 obtain ⟨Y0,hY⟩:∃Y,r.nodes[k]?.getD 0=Y:=⟨_,rfl⟩
 rw [hY] at cn
 have aP:=Hd hY
 have HO:=Hd ((aJ.refl K).pushOwn (aD (Below.refl _ _) (.cells #[.int .i64 Y0] 3)) (Own.made (cur:=#[.int .i64 Y0]) (aI K _) (Nat.le_refl _) (by unfold maxLen;simp) rfl rfl:Own K.heap.size (K.alloc (.cells #[.int .i64 Y0] 3)) (some ⟨K.heap.size,0,none⟩) 1 1 [Y0]))
 clear hY
 go_wp2_with fail
 clear y0 y1 ly cn ap k0 k1 aE k2
 go_loopw [1,5] (fun i v wr=>∃(j m:Nat) (bs:List Int) (A:Option Addr) (c:Nat),j<=k/\i = .int .i64 (j:Int)/\v = .slice A (m+1) c/\bs.length=m/\m+j<=k/\fI r k=fI r j++bs.reverse/\aJ K wr [.cel (aG (bs++[r.nodes[j]?.getD 0])) (.slice A (m+1) c)]) (fun i _ _=>(intOf i).toNat)
 ·exact ⟨k,0,[],_,_,by omega,rfl,rfl,rfl,by omega,by simp,by rw [aP.out];exact HO.out⟩
 obtain ⟨j,m,bs,A1,c1,aB,rfl,rfl,au,bq,I,hs⟩:=hrel
 obtain ⟨G,am,R⟩:=hd3 hs I au
 have H:=Hd (aA B.out hs.bel)
 clear hs I au i0 i1
 obtain ⟨y0,y1,ly⟩:=fZ (aC G.out.bel ar.out)
 by_cases af:0<j
 ·have dj:decide ((j:Int)>0)=true:=by simp;omega
  have ao:j<g:=by omega
  have z:=nK ag.out af ao
  have aF:=ag.out j af ao
  have cf:=aH.out j (by omega) _ H.out
  have a5:=aK H.out aj
  obtain ⟨F,hF⟩:∃F:Nat,r.from_[j]?.getD 0=(F:Int):=⟨(r.from_[j]?.getD 0).toNat,by omega⟩
  rw [hF] at cf aF z
  rw [Int.toNat_natCast] at z
  have a9:F<j:=by omega
  have cn:=ah.out F (by omega) _ H.out
  have ap:=aK H.out J
  obtain ⟨Y,hY⟩:∃Y,r.nodes[j]?.getD 0=Y:=⟨_,rfl⟩
  rw [hY] at z
  obtain ⟨aL,aO⟩:=hd2 z hY
  obtain ⟨Z,hZ⟩:∃Z,r.nodes[F]?.getD 0=Z:=⟨_,rfl⟩
  rw [hZ] at cn
  have HZ:=Hd hZ
  rw [aO.out] at G
  clear hF hY z hZ
  obtain ⟨j0,j1⟩:=ib (by omega:j<g)
  obtain ⟨f0,f1⟩:=ib (by omega:F<g)
  have df:decide ((F:Int)<0)=false:=by simp
  have dg:decide ((j:Int)<=(F:Int))=false:=by simp;omega
  have be:decide ((F:Int)≥(j:Int))=false:=by simp;omega
  have a6:decide (j<=F)=false:=decide_eq_false (by omega)
  go_wp2_with (at_builtin;refine dW rfl _ _ rfl _ (G.out.alloc _) 0 A1 (m+1) c1 (bs++[Y]) Z _ (0,0) rfl rfl rfl (aI _ _) (by omega) ?_;intro g9 W w9 S9 ad;have Q:=Hd S9;clear S9 ad)
  go_roundw
  ·exact ⟨F,m+1,bs++[Y],some ⟨g9,0,none⟩,W,by omega,rfl,rfl,by rw [List.length_append,R.out];rfl,by omega,by rw [am.out,aL.out,List.reverse_append,List.append_assoc];rfl,by rw [HZ.out];exact Q.out⟩
  simp [intOf];omega
 have hj:j=0:=by omega
 have dj:decide ((j:Int)>0)=false:=by simp;omega
 have ax:Hid ((bs++[r.nodes[j]?.getD 0]).reverse=fI r k):=by show _=_;rw [am.out,hj,nJ,List.reverse_append];rfl
 have U:Hid ((bs++[r.nodes[j]?.getD 0]).length=m+1):=by show _=_;rw [List.length_append,R.out];rfl
 generalize bs++[r.nodes[j]?.getD 0]=ys at *
 have aq:=Hd (G.out.pushNew 3 1)
 obtain ⟨M,hM⟩:∃M,m+1=M:=⟨_,rfl⟩
 rw [hM] at G U aq ⊢
 have bo:M<=1048577:=by omega
 have e3:IntKind.i64.wrap ((M:Int) - 1)=(M:Int) - 1:=IntWalk.i64_in _ (by omega)
 clear hj aB hM R y0 y1 ly
 go_wp2_with fail
 go_loopw [6,7] (fun v i wr=>∃(p q:Nat) (A:Option Addr) (c:Nat),p+q=M/\i = .int .i64 ((q:Int) - 1)/\v = .slice A (p) c/\aJ K wr [.cel (aG ys) (.slice A1 M c1),.cel (aG ((ys.drop q).reverse)) (.slice A (p) c)]) (fun _ i _=>(intOf i+1).toNat)
 ·exact ⟨0,M,_,_,by omega,rfl,rfl,by rw [List.drop_of_length_le (Nat.le_of_eq U.out)];exact aq.out⟩
 obtain ⟨p,q,A2,c2,bm,rfl,rfl,hs⟩:=hrel
 have G:=Hd hs
 clear hs
 cases q with
 | zero =>
  have HD:Hid ((ys.drop 0).reverse=fI r k):=by show _=_;rw [List.drop_zero];exact ax.out
  have az:=Hd (G.out.owned 1 rfl)
  go_wp2_with fail
  go_ret
  exact ⟨_,_,_,rfl,by rw [←HD.out];exact az.out.more B.out.size,aA B.out G.out.bel⟩
 | succ q =>
  obtain ⟨bb,ob,hB,bd,av⟩:=(G.out.ints 0 rfl).2 (by omega)
  have cb:=av q (by omega)
  have V:q<ys.length:=by rw [U.out];omega
  have aQ:Hid ((ys.drop q).reverse=(ys.drop (q+1)).reverse++[ys[q]?.getD 0]):=by
   show _=_
   rw [List.drop_eq_getElem_cons V,List.reverse_cons,List.getElem?_eq_getElem V]
   rfl
  have aU:=Hd hB
  clear av hB V
  rw [show ((q+1:Nat):Int) - 1=(q:Int) by omega]
  generalize ys[q]?.getD 0=Y at *
  generalize aN:(ys.drop (q+1)).reverse=DQ at *
  clear aN
  obtain ⟨i0,i1⟩:=ib (by omega:q<M)
  obtain rfl:=aU.out
  go_wp2_with (at_builtin;refine dW rfl _ _ rfl _ (G.out.alloc _) 1 A2 (p) c2 (DQ) Y _ (0,0) rfl rfl rfl (aI _ _) (by omega) ?_;intro g9 W w9 S9 ad;have Q:=Hd S9;clear S9 ad)
  go_roundw
  ·exact ⟨p+1,q,some ⟨g9,0,none⟩,W,by omega,by go_num,rfl,by rw [aQ.out];exact Q.out⟩
  simp [intOf]
theorem zK (d:Dev) (n:Int) (w:World) (hn:bI d n=true) :
  Calls Tryz.prog 228 #[.agg (dv d),.int .i64 n] w fun e w'=>e = .returned (.bool (decide (7<=n % aQ d)))/\Below w.heap.size w w':=by
 have z:fD d n=true:=by unfold bI at hn;rw [Bool.and_eq_true] at hn;exact hn.1
 obtain ⟨G,n0,n1,ah,af,ai,ae⟩:=jG z
 have hT:=ay G
 have Z:=eT G
 have J:=Hd (aD (Below.refl w.heap.size w) (.cells (dv d) 36))
 have j:=Hd (aI w (.cells (dv d) 36))
 obtain ⟨H,Q,R,K,U⟩:=bX j.out
 have g:=Hd (fun (v:World)=>eG d v (by omega) (by omega))
 go_enter Tryz.func228,Tryz.ntmps228
 go_upto_region 1 with fail
 generalize w.alloc (.cells (dv d) 36)=W9 at *
 go_wp2_with fail
 refine (iE d n _).mono ?_
 rw [hn]
 rintro _ w1 ⟨rfl,D⟩
 have I:=Hd (aA J.out D)
 have W:=aC D j.out
 clear D H Q R K U G
 obtain ⟨H,Q,R,K,U⟩:=bX W
 clear W
 go_wp2_with fail
 refine (g.out _).mono ?_
 rintro _ w2 ⟨rfl,b2⟩
 have q:=Hd (aA I.out b2)
 clear b2 H Q R K U g
 generalize V:aQ d=p at *
 have Y:=Hd V
 clear V
 have e1:n.tmod p=n % p:=Int.tmod_eq_emod_of_nonneg n0
 have e2:¬p=0:=by omega
 have e3:IntKind.i64.wrap (n % p)=n % p:=IntWalk.i64_in _ (by omega)
 by_cases u:7<=n % p
 ·have d7:decide (n % p≥7)=true:=decide_eq_true u
  have B:Hid (true=decide (7<=n % aQ d)):=by show _=_;rw [Y.out];exact (decide_eq_true u).symm
  go_wp2_with fail
  go_ret
  exact ⟨cK B.out,q.out⟩
 have d7:decide (n % p≥7)=false:=decide_eq_false u
 have B:Hid (false=decide (7<=n % aQ d)):=by show _=_;rw [Y.out];exact (decide_eq_false u).symm
 go_wp2_with fail
 go_ret
 exact ⟨cK B.out,q.out⟩
theorem uK (d:Dev) (n:Int) (w:World) (hn:bI d n=true) :
  Calls Tryz.prog 138 #[.agg (dv d),.int .i64 n] w fun e w'=>∃A m c,e = .returned (.slice A m c)/\(m:Int)=oP d n/\Below w.heap.size w w':=by
 have D:fD d n=true:=by unfold bI at hn;rw [Bool.and_eq_true] at hn;exact hn.1
 obtain ⟨hd,n0,n1,ao,au,aX,ai⟩:=jG D
 have hT:=ay hd
 have aR:=eT hd
 have ht:az d (n / aQ d)=true:=aV.2 ⟨hd,ao,au⟩
 have U:=Hd (aD (Below.refl w.heap.size w) (.cells (dv d) 36))
 have g:=Hd (aI w (.cells (dv d) 36))
 obtain ⟨R,K,W,x3,Z⟩:=bX g.out
 go_enter Tryz.func138,Tryz.ntmps138
 go_upto_region 1 with fail
 generalize w.alloc (.cells (dv d) 36)=W9 at *
 have I:=Hd ((aJ.refl W9).pushNew 3 1)
 go_wp2_with fail
 refine (zK d n _ hn).mono ?_
 by_cases B:7<=n % aQ d
 ·rw [decide_eq_true B]
  rintro _ w1 ⟨rfl,H⟩
  have V:=Hd (I.out.below H)
  clear H R K W x3 Z
  obtain ⟨R,K,W,x3,Z⟩:=bX (aC V.out.bel g.out)
  go_wp2_with fail
  refine (qO d n _ D B).mono ?_
  rintro _ w2 ⟨rfl,b2⟩
  have am:=Hd (V.out.below b2)
  have HR:Hid (oP d n=bR ((n % aQ d - 7) % d.T)):=if_pos B
  have aM:=Int.emod_nonneg (n % aQ d - 7) (show d.T≠0 by omega)
  have aT:=Int.emod_lt_of_pos (n % aQ d - 7) (show 0<d.T by omega)
  have aq:0<=(n % aQ d - 7) / d.T:=Int.ediv_nonneg (by omega) (by omega)
  have hd3:(n % aQ d - 7) / d.T<=3:=by
   have h1:(n % aQ d - 7) / d.T<4:=Int.ediv_lt_of_lt_mul (by omega) (by unfold aQ at ai ⊢;omega)
   omega
  have G:=Hd (fun (v:World)=>eG d v (by omega) (by omega))
  clear b2 R K W x3 Z
  generalize ae:(n % aQ d - 7) / d.T=J at *
  generalize aB:(n % aQ d - 7) % d.T=tr at *
  clear ae aB hn B D
  have Q:=Hd (fun (v:World) (s:Int) (h0:0<=s) (h1:s<=6)=>iC d (n / aQ d) J s v ht aq hd3 h0 h1)
  generalize aQ d=p at *
  have e0:tr.tmod 2=tr % 2:=Int.tmod_eq_emod_of_nonneg aM
  have e1:IntKind.i64.wrap (tr % 2)=tr % 2:=IntWalk.i64_in _ (by omega)
  have e2:IntKind.i64.wrap (1+tr % 2)=1+tr % 2:=IntWalk.i64_in _ (by omega)
  have e3:IntKind.i64.wrap (n.tdiv p)=n / p:=IntWalk.i64_quo _ _ ⟨n0,by omega,by omega⟩
  have e4:¬p=0:=by omega
  go_wp2_with fail
  go_loopw [5,8] (fun v i wr=>∃(j:Nat) (xs:List Int) (A:Option Addr) (c:Nat),(j:Int)<=1+tr % 2/\i = .int .i64 ((j:Int)+1)/\v = .slice A j c/\aJ W9 wr [.cel (aG xs) (.slice A j c)]) (fun _ i _=>(3 - intOf i).toNat)
  ·exact ⟨0,[],_,_,by omega,rfl,rfl,am.out⟩
  obtain ⟨j,xs,A1,c1,hj,rfl,rfl,hs⟩:=hrel
  have HS:=Hd hs
  clear hs
  by_cases z:(j:Int)+1<=1+tr % 2
  ·have dj:decide ((j:Int)+1<=1+tr % 2)=true:=decide_eq_true z
   obtain ⟨R,K,W,x3,Z⟩:=bX (aC HS.out.bel g.out)
   have ar:=Hd (fun (v:World)=>Q.out v ((j:Int)+1) (by omega) (by omega))
   generalize av d (n / p) J ((j:Int)+1)=Y at *
   have q:Hid (∀w',Below W9.heap.size W9 w'→(KDe w' w.heap.size d)):=fun v hv=>⟨aF (k:=0) (aC hv g.out) rfl,aF (k:=1) (aC hv g.out) rfl,aF (k:=2) (aC hv g.out) rfl,aF (k:=3) (aC hv g.out) rfl⟩
   have hS:=Hd HS.out.drew
   have u:=hS.out.bel
   go_upto_region 8 with fail
   go_region_held3 (fun w'=>KDe w' w.heap.size d)
    (first|with_reducible exact q.out _ u|with_reducible exact q.out _ (aD u _))
    ((first
     | (go_at_call 68;(with_reducible refine (G.out _).mono ?_);rintro _ w6 ⟨rfl,b6⟩;replace u:=aA u b6;have aL:=Hd (hS.out.below b6);clear b6)
     | (go_at_call 230;(with_reducible refine (ar.out _).mono ?_);rintro _ w7 ⟨rfl,b7⟩;replace u:=aA u b7;have aw:=Hd (aL.out.below b7);clear b7)
     | (refine gu rfl _ _ (by rfl) _ (aw.out.alloc _) 0 A1 j c1 xs Y _ (0,0) rfl (by rfl) (by rfl) (aI _ _) (by omega) ?_;intro g8 aN w8 S8 al;have aK:=Hd S8;replace u:=S8.bel;clear S8 al)))
   go_wp2_with fail
   go_roundw
   ·exact ⟨j+1,_,_,_,by omega,by go_num,rfl,aK.out⟩
   simp [intOf];omega
  have dj:decide ((j:Int)+1<=1+tr % 2)=false:=decide_eq_false z
  have HJ:Hid ((j:Int)=oP d n):=by show _=_;rw [HR.out];unfold bR;omega
  clear z
  go_wp2_with fail
  go_ret
  exact ⟨_,_,_,rfl,HJ.out,aA U.out HS.out.bel⟩
 rw [decide_eq_false B]
 have HR:Hid (((0:Nat):Int)=oP d n):=(if_neg B).symm
 rintro _ w1 ⟨rfl,H⟩
 have ap:=Hd (aA U.out (I.out.below H).bel)
 clear H R K W x3 Z B
 go_wp2_with fail
 go_ret
 exact ⟨_,_,_,rfl,HR.out,ap.out⟩
theorem uA (d:Dev) (x:Lay) (SA LA OA BA CA PA RA:Option Addr) (sn sc ln lc on oc bn bc cn cc pn pc rn rc:Nat) (V U:Int) (w:World) (h:j5 w x SA LA OA BA CA PA RA sn sc ln lc on oc bn bc cn cc pn pc rn rc) (hf:d9 d x.place x.conns x.routes) (hl:xG x 1048576) :
  Calls Tryz.prog 55 #[.agg (dv d),sZ x SA LA OA BA CA PA RA sn sc ln lc on oc bn bc cn cc pn pc rn rc,.int .i64 V,.int .i64 U] w fun e w'=>e = .returned (.int .i64 (sinkD d x ⟨V,U⟩))/\Below w.heap.size w w':=by
 obtain ⟨_,aJ,aZ,a8⟩:=h.lens
 have aU:pn<=1048576:=by rw [←aZ];exact hl.place
 have bm:cn<=100:=by rw [←aJ];exact hf.conns.len
 have dr:Hid (rn=cn):=by show _=_;rw [←a8,←aJ];exact hf.len
 obtain ⟨cy,er,H1,ay,dt⟩:=hd5 aJ a8 h hf hl
 clear h hf hl aJ a8 aZ
 have g:=Hd (aD (aD (Below.refl w.heap.size w) (.cells (dv d) 36)) (.cells #[.int .i64 x.net.inputs,.slice SA sn sc,.slice LA ln lc,.slice OA on oc,.slice BA bn bc,.slice CA cn cc,.slice PA pn pc,.slice RA rn rc] 46))
 have hx:=bS (.cells #[.int .i64 x.net.inputs,.slice SA sn sc,.slice LA ln lc,.slice OA on oc,.slice BA bn bc,.slice CA cn cc,.slice PA pn pc,.slice RA rn rc] 46) (aI w (.cells (dv d) 36))
 have hy:=aI (w.alloc (.cells (dv d) 36)) (.cells #[.int .i64 x.net.inputs,.slice SA sn sc,.slice LA ln lc,.slice OA on oc,.slice BA bn bc,.slice CA cn cc,.slice PA pn pc,.slice RA rn rc] 46)
 simp only [World.size_alloc] at hy
 obtain ⟨K,af⟩:=hd2 hx hy
 clear hx hy
 go_enter Tryz.func55,Tryz.ntmps55
 go_upto_region 1 with fail
 generalize (w.alloc (.cells (dv d) 36)).alloc (.cells #[.int .i64 x.net.inputs,.slice SA sn sc,.slice LA ln lc,.slice OA on oc,.slice BA bn bc,.slice CA cn cc,.slice PA pn pc,.slice RA rn rc] 46)=W9 at *
 go_wp2_with fail
 go_loopw [9] (fun i wr=>∃k:Nat,k<=cn/\i = .int .i64 (k:Int)/\Below W9.heap.size W9 wr/\∀j,j<k→¬l7 x j ⟨V,U⟩) (fun i _=>cn - (intOf i).toNat)
 ·exact ⟨0,by omega,rfl,Below.refl _ _,fun j hj=>by omega⟩
 obtain ⟨k,hk,rfl,hb,a4⟩:=hrel
 obtain ⟨al,aq⟩:=hd2 hb a4
 clear hb a4
 by_cases df:k<cn
 ·have dW:=dT (by omega:k<cn)
  have ai:k<x.conns.length:=by rw [cy.out];exact df
  have dh:k<x.routes.length:=by rw [ay.out.len];exact ai
  obtain ⟨gq,D,QA,m,mc,cs,ag,c0,c1,c2,c3,bu⟩:=H1.out.cn.cn (k:=k) ai
  obtain ⟨br,aM,NA,Z,nc,FA,fn,fc,b2,aO,e0,e1,bt,bB⟩:=H1.out.ro.rou (k:=k) dh
  have bC:=(ay.out.fit k ai).1
  have Q:=(ay.out.fit k ai).2
  have am:=dt.out.sinks _ (List.getElem_mem ai)
  rw [show x.conns[k]=x.conns[k]?.getD Cn.zero by rw [List.getElem?_eq_getElem ai];rfl] at am
  obtain ⟨cx,bD⟩:∃c,wW x k=c:=⟨_,rfl⟩
  obtain ⟨rx,bg⟩:∃r,ru x k=r:=⟨_,rfl⟩
  rw [show x.conns[k]?.getD Cn.zero=cx from bD] at c0 c1 c2 bu bC Q am
  rw [show x.routes[k]?.getD Rou.zero=rx from bg] at bt bB Q
  obtain ⟨N,⟨a,b⟩,ss⟩:=cx
  obtain ⟨G,fs⟩:=rx
  simp only at c0 c1 c2 c3 am
  obtain ⟨ci,b1,cV,cW⟩:=hd4 bD bg bC Q
  have be:=Hd (show RdC w w.heap.size (bL ss) (.slice QA m mc) from bu)
  have bE:Hid (ss.length=m):=be.out.pinN
  have hm:m<=1048576:=by rw [←bE.out];exact am
  have aV:=Hd (show dE w NA Z G from bt.ints)
  have ax:=Hd (show dE w FA fn fs from bB.ints)
  have cT:fn=Z:=by rw [←ax.out.1,←aV.out.1];exact Q.same
  subst cT
  obtain ⟨Z,rfl⟩:∃y,y=fn:=⟨fn,rfl⟩
  have dU:=ax
  have aE:Hid (G.length=Z):=aV.out.1
  have cf:Hid (G.Nodup):=Q.once
  have az:Hid (rq ⟨G,fs⟩ Z):=by have h:=rq.of Q;rw [show (⟨G,fs⟩:Rou).nodes=G from rfl,aE.out] at h;exact h
  have cR:Hid (G[0]?.getD 0 % aQ d=5∨G[0]?.getD 0 % aQ d=6):=by have h:=Q.root;rw [show (⟨G,fs⟩:Rou).nodes=G from rfl] at h;rw [h.1];exact h.2.2
  have ej:Z<=828:=by have h:=Q.bd;rw [show (⟨G,fs⟩:Rou).nodes=G from rfl,aE.out] at h;exact h
  have bV:=Hd Q.dev
  have ce:Hid (∀v,Below w.heap.size w v→v.cell? ⟨br,aM+k * 2,none⟩=some (.slice NA Z nc)):=fun v H=>(H.cell (p:=⟨br,aM+k * 2,none⟩) aO).trans e0
  have bY:Hid (∀v,Below w.heap.size w v→v.cell? ⟨br,aM+k * 2+1,none⟩=some (.slice FA Z fc)):=fun v H=>(H.cell (p:=⟨br,aM+k * 2+1,none⟩) aO).trans e1
  obtain ⟨dx,cU⟩:=hd2 cs b2
  clear cs b2 bD bg bC Q am bu bt bB e0 e1 ax
  obtain rfl:=dx.out
  obtain rfl:=cU.out
  have J:Hid (∀w',Below W9.heap.size W9 w'→(KD w' w.heap.size d (w'.cell? ⟨w.heap.size+1,5,none⟩=some (.slice (some ⟨gq,D,none⟩) cn cc)/\w'.cell? ⟨w.heap.size+1,6,none⟩=some (.slice PA pn pc)/\w'.cell? ⟨gq,D+k * 4,none⟩=some (.int .i64 N)/\w'.cell? ⟨gq,D+k * 4+1,none⟩=some (.int .i64 a)/\w'.cell? ⟨gq,D+k * 4+2,none⟩=some (.int .i64 b)/\w'.cell? ⟨gq,D+k * 4+3,none⟩=some (.slice QA m mc)))):=fun v H=>⟨aF (k:=0) (aC H K.out) rfl,aF (k:=1) (aC H K.out) rfl,aF (k:=2) (aC H K.out) rfl,aF (k:=3) (aC H K.out) rfl,aF (k:=5) (aC H af.out) rfl,aF (k:=6) (aC H af.out) rfl,((aA g.out H).cell (p:=⟨gq,D+k * 4,none⟩) ag).trans c0,((aA g.out H).cell (p:=⟨gq,D+k * 4+1,none⟩) ag).trans c1,((aA g.out H).cell (p:=⟨gq,D+k * 4+2,none⟩) ag).trans c2,((aA g.out H).cell (p:=⟨gq,D+k * 4+3,none⟩) ag).trans c3⟩
  have dD:Hid (∀v,Below W9.heap.size W9 v→v.cell? ⟨gq,D+k * 4+3,none⟩=some (.slice QA m mc)):=fun v H=>((aA g.out H).cell (p:=⟨gq,D+k * 4+3,none⟩) ag).trans c3
  clear c0 c1 c2 c3
  obtain ⟨x0,x1,x2,x3,y5,y6,c0,c1,c2,c3⟩:=J.out _ al.out
  have lx:=aB (aC al.out K.out)
  have ly:=aB (aC al.out af.out)
  have bA:=aK (aA g.out al.out) ag
  obtain ⟨i0,i1⟩:=ib (by omega:k<cn)
  have i2:(k:Int)<(rn:Int):=by have:=dr.out;omega
  have dQ:=Hd (fun (v:World) (H:Below W9.heap.size W9 v)=>xD d x.place N a b ss PA QA pn pc m mc v (H1.out.pl.ints.below (aA g.out H)) (be.out.below (aA g.out H)) aU hm)
  have W:=al.out.drew
  go_upto_region 4 with fail
  go_region_held3 (fun w'=>KD w' w.heap.size d (w'.cell? ⟨w.heap.size+1,5,none⟩=some (.slice (some ⟨gq,D,none⟩) cn cc)/\w'.cell? ⟨w.heap.size+1,6,none⟩=some (.slice PA pn pc)/\w'.cell? ⟨gq,D+k * 4,none⟩=some (.int .i64 N)/\w'.cell? ⟨gq,D+k * 4+1,none⟩=some (.int .i64 a)/\w'.cell? ⟨gq,D+k * 4+2,none⟩=some (.int .i64 b)/\w'.cell? ⟨gq,D+k * 4+3,none⟩=some (.slice QA m mc)))
   (first|with_reducible exact J.out _ W)
   ((first
    | (go_at_call 117;(with_reducible refine (dQ.out _ W).mono ?_);rintro e5 w5 ⟨A,m',c,rfl,o5,b5⟩;have O5:=Hd o5;replace W:=aA W b5;clear b5 o5)))
  have Y:=Hd W
  clear W x0 x1 x2 x3 lx y5 y6 ly c0 c1 c2 c3 bA J
  rcases O5.out with ⟨_,rfl,o7⟩|⟨ds,_⟩
  rotate_left
  ·exact absurd cV.out ds
  have O7:=Hd o7
  clear o7 O5
  obtain ⟨W4,rfl⟩:∃y,y=w5:=⟨w5,rfl⟩
  go_wp2_with fail
  go_loopw [11] (fun i wr=>∃p:Nat,p<=m/\i = .int .i64 (p:Int)/\W4=wr/\∀j,j<p→ss[j]?.getD ah.zero≠⟨V,U⟩) (fun i _=>m - (intOf i).toNat)
  ·exact ⟨0,by omega,rfl,rfl,fun j hj=>by omega⟩
  obtain ⟨p,hp,rfl,rfl,au⟩:=hrel
  have cr:=Hd au
  clear au
  by_cases a1:p<m
  ·have dp:=dT (by omega:p<m)
   have R:p<ss.length:=by rw [bE.out];exact a1
   obtain ⟨bq,oq,cl,bv,ck,bP⟩:=be.out.pin (k:=p) R
   have dN:=Hd cl
   have p0:=((aA g.out Y.out).cell (p:=⟨bq,oq+p * 2,none⟩) bv).trans ck
   have p1:=((aA g.out Y.out).cell (p:=⟨bq,oq+p * 2+1,none⟩) bv).trans bP
   have c4:=aK (aA g.out Y.out) bv
   have hG:ss[p]?.getD ah.zero≠⟨V,U⟩→∀j,j<p+1→ss[j]?.getD ah.zero≠⟨V,U⟩:=fun h=>bU cr.out h
   have cj:ss[p]?.getD ah.zero=⟨V,U⟩→l7 x k ⟨V,U⟩:=fun h=>⟨ai,by rw [ci.out];rw [List.getElem?_eq_getElem R] at h;exact h ▸ List.getElem_mem R⟩
   have b9:ss[p]?.getD ah.zero=⟨V,U⟩→(bQ d x.place ⟨N,⟨a,b⟩,ss⟩)[p]?.getD 0=bO d x.place ⟨V,U⟩:=fun h=>by
    unfold bQ
    rw [List.getElem?_map,List.getElem?_eq_getElem R]
    rw [List.getElem?_eq_getElem R] at h
    exact congrArg (bO d x.place) h
   obtain ⟨HG,aR,ao⟩:=hd3 hG cj b9
   clear hG cj b9 ck bP cl R
   obtain rfl:=dN.out
   generalize ss[p]?.getD ah.zero=pp at *
   obtain ⟨pa,pb⟩:=pp
   simp only at p0 p1
   obtain ⟨es,eo⟩:=ib (by omega:p<m)
   obtain ⟨-,-,-,-,-,y5,y6,y7,ly⟩:=j6 (aC Y.out af.out)
   have c3:=dD.out _ Y.out
   have bA:=aK (aA g.out Y.out) ag
   by_cases ha:pa=V
   ·have da:(pa != V)=false:=by simp [ha]
    by_cases hb:pb=U
    ·have db:(pb != U)=false:=by simp [hb]
     have bh:=aR.out (by rw [ha,hb])
     have dM:=Hd (ao.out (by rw [ha,hb]))
     obtain ⟨k0,bz⟩:∃k0,jK G (bO d x.place ⟨V,U⟩)=some k0:=by
      have h1:=qY ay.out bh
      rw [b1.out] at h1
      obtain ⟨j,hj,bw⟩:=List.getElem_of_mem h1
      exact ⟨j,yu cf.out hj (by rw [List.getElem?_eq_getElem hj];exact bw)⟩
     have a5:=Hd (qZ bz)
     obtain ⟨VV,bb⟩:∃v,mK d (fI ⟨G,fs⟩ k0)=v:=⟨_,rfl⟩
     have bR:Hid (sinkD d x ⟨V,U⟩=VV):=by
      show _=_
      rw [uo ay.out bh]
      unfold ul
      rw [b1.out,bz]
      exact bb
     have dg:=Hd bb
     generalize bO d x.place ⟨V,U⟩=YY at *
     clear ha hb bh bz bb HG aR ao
     go_wp2_with fail
     clear p0 p1 c4 c3 bA y5 y6 y7 ly
     go_loopw [12,13] (fun s i wr=>∃(q:Nat) (sm:Int),q<=Z/\i = .int .i64 (q:Int)/\s = .int .i64 sm/\Below W4.heap.size W4 wr/\(q<=k0/\sm=0∨k0<q/\sm=VV)) (fun _ i _=>Z - (intOf i).toNat)
     ·exact ⟨0,0,by omega,rfl,rfl,Below.refl _ _,.inl ⟨by omega,rfl⟩⟩
     obtain ⟨q,sm,hq,rfl,rfl,hb,I⟩:=hrel
     have ak:=Hd hb
     have B:=Hd (aA Y.out hb)
     clear hb
     obtain ⟨-,-,-,-,-,y5,y6,y7,ly⟩:=j6 (aC B.out af.out)
     have e0:=ce.out _ (aA g.out B.out)
     have e1:=bY.out _ (aA g.out B.out)
     have aH:=aK (aA g.out B.out) aO
     by_cases a6:q<Z
     ·have dq:=dT (by omega:q<Z)
      have cC:q<G.length:=by rw [aE.out];exact a6
      obtain ⟨c6,dk,bZ,bT,bm⟩:=aV.out.2 (by omega)
      have dJ:=Hd bZ
      have ch:=((aA g.out B.out).cell (p:=⟨c6,dk+q,none⟩) bT).trans (bm q a6)
      have b3:=aK (aA g.out B.out) bT
      obtain ⟨dw,cQ,cp,cw,cu⟩:=O7.out.2 (by omega)
      have c9:=Hd cp
      have cs2:=(ak.out.cell (p:=⟨dw,cQ+p,none⟩) cw).trans ((cu p a1).trans (by rw [dM.out]))
      have b8:=aK ak.out cw
      have a2:G[q]?.getD 0=YY→q=k0:=fun h=>by
       have h1:=a5.out
       rw [List.getElem?_eq_getElem cC] at h
       rw [List.getElem?_eq_getElem h1.1] at h1
       have h2:G[q]=G[k0]:=by simpa using h.trans h1.2.symm
       exact (List.getElem_inj cf.out).1 h2
      have a0:G[q]?.getD 0≠YY→q≠k0:=fun h h2=>h (by rw [h2];exact a5.out.2)
      obtain ⟨ca,cg⟩:=hd2 a2 a0
      clear bZ bm cp cu a2 a0 cC
      obtain rfl:=dJ.out
      obtain rfl:=c9.out
      generalize G[q]?.getD 0=z at *
      obtain ⟨q0,q1⟩:=ib (by omega:q<Z)
      obtain ⟨p0,p1⟩:=ib (by omega:p<m)
      by_cases hz:z=YY
      ·have dz:(z != YY)=false:=by simp [hz]
       have bl:=ca.out hz
       have dd:sm=0:=by rcases I with h|h <;> omega
       have bN:=Hd bl
       subst dd
       clear I hz bl
       go_upto_region 13 with fail
       have av:=aX wr
       have a9:=aP wr
       refine wpB wr ?_
       repeat (go_big_quiet_step (fail))
       refine wpQuiet_nil ?_
       rintro wq ⟨⟨w6,W⟩,hw⟩
       replace hw:wq=w6:=hw
       subst hw
       clear av a9
       have aG:=Hd (aA ak.out W)
       replace B:=Hd (aA B.out W)
       clear ak W e0 e1 aH ch b3 cs2 b8
       have ak:=aG
       clear aG y5 y6 y7 ly
       obtain ⟨-,-,-,-,-,y5,y6,y7,ly⟩:=j6 (aC B.out af.out)
       obtain ⟨x0,x1,x2,x3,lx⟩:=bX (aC B.out K.out)
       have e0:=ce.out _ (aA g.out B.out)
       have e1:=bY.out _ (aA g.out B.out)
       have aH:=aK (aA g.out B.out) aO
       go_wp2_with fail
       refine (zJ ⟨G,fs⟩ _ FA Z nc fc q _ (aV.out.below (aA g.out B.out)) (dU.out.below (aA g.out B.out)) az.out a6 (by omega)).mono ?_
       rintro _ w6 ⟨PT,pl,pp,rfl,op,b6⟩
       obtain ⟨aW,c5⟩:=hd2 op.len op.ints
       have dc:(fI ⟨G,fs⟩ q).length<=q+1:=pV az.out q (by omega)
       have dI:1<=(fI ⟨G,fs⟩ q).length:=(rE az.out q (by omega)).2
       have cX:Hid ((fI ⟨G,fs⟩ q)[0]?.getD 0=G[0]?.getD 0):=(rE az.out q (by omega)).1
       have cS:Hid (∀j,0<j→j<(fI ⟨G,fs⟩ q).length→∃mm,0<mm/\mm<Z/\(fI ⟨G,fs⟩ q)[j]?.getD 0=G[mm]?.getD 0):=wX az.out q (by omega)
       have dS:Hid (VV=mK d (fI ⟨G,fs⟩ q)):=by show _=_;rw [←dg.out,←bN.out]
       rw [aW.out] at dc dI
       generalize fI ⟨G,fs⟩ q=u at *
       have cY:Hid (0=mK d (u.take 1)):=by
        show _=_
        rw [tC (j:=0) (by rw [aW.out];omega),List.take_zero,uq,cX.out,Dc cR.out]
        rfl
       have dK:=Hd b6
       have ap:=Hd (aA B.out b6)
       obtain ⟨w5,rfl⟩:∃y,y=w6:=⟨w6,rfl⟩
       clear op b6 e0 e1 aH x0 x1 x2 x3 lx y5 y6 y7 ly
       go_wp2_with fail
       go_loopw [12,15] (fun s i wr=>∃j:Nat,1<=j/\j<=pl/\i = .int .i64 (j:Int)/\s = .int .i64 (mK d (u.take j))/\Below w5.heap.size w5 wr) (fun _ i _=>pl - (intOf i).toNat)
       ·exact ⟨1,by omega,by omega,rfl,by rw [←cY.out],Below.refl _ _⟩
       obtain ⟨j,ef,hj,rfl,rfl,hb⟩:=hrel
       have aw:=Hd hb
       clear hb
       have am:=xO bV.out (u.take j)
       have c8:(u.take j).length<=829:=by rw [List.length_take];omega
       by_cases cb:j<pl
       ·have dj:=dT (by omega:j<pl)
        have bF:j<u.length:=by rw [aW.out];exact cb
        have a7:=tC (d:=d) bF
        obtain ⟨mm,de,dC,cd⟩:=cS.out j (by omega) bF
        have ar:=AJ cW.out de (by rw [aE.out];exact dC)
        change bI d (G[mm]?.getD 0)=true/\¬(G[mm]?.getD 0 % aQ d=5∨G[mm]?.getD 0 % aQ d=6) at ar
        rw [←cd] at ar
        rw [←CJ ar.2] at a7
        have em:=CK bV.out (u[j]?.getD 0)
        obtain ⟨bp,op,cm,b0,co⟩:=c5.out.2 (by omega)
        have cv:Hid (∀v,Below w5.heap.size w5 v→v.cell? ⟨bp,op+j,none⟩=some (.int .i64 (u[j]?.getD 0))):=fun v H=>(H.cell (p:=⟨bp,op+j,none⟩) b0).trans (co j cb)
        have cZ:=Hd cm
        have ek:=aK aw.out b0
        have di:=Hd ar.1
        clear co cm cd ar bF
        obtain rfl:=cZ.out
        generalize u[j]?.getD 0=z at *
        generalize mK d (u.take j)=sm at *
        have dR:=Hd a7
        have cM:=Hd (fun (v:World)=>uK d z v di.out)
        clear a7
        generalize oP d z=rz at *
        obtain ⟨j0,j1⟩:=ib (by omega:j<pl)
        have e1:IntKind.i64.wrap (sm+1)=sm+1:=IntWalk.i64_in _ (by omega)
        have e2:IntKind.i64.wrap (sm+1+rz)=sm+1+rz:=IntWalk.i64_in _ (by omega)
        have cz:=cv.out _ aw.out
        obtain ⟨x0,x1,x2,x3,lx⟩:=bX (aC (aA ap.out aw.out) K.out)
        have J:Hid (∀w',Below w5.heap.size w5 w'→(KD w' w.heap.size d (w'.cell? ⟨bp,op+j,none⟩=some (.int .i64 z)))):=fun v H=>⟨aF (k:=0) (aC (aA ap.out H) K.out) rfl,aF (k:=1) (aC (aA ap.out H) K.out) rfl,aF (k:=2) (aC (aA ap.out H) K.out) rfl,aF (k:=3) (aC (aA ap.out H) K.out) rfl,cv.out v H⟩
        have W:=aw.out.drew
        go_upto_region 18 with fail
        go_region_held3 (fun w'=>KD w' w.heap.size d (w'.cell? ⟨bp,op+j,none⟩=some (.int .i64 z)))
         (first|with_reducible exact J.out _ W)
         ((first
          | (go_at_call 138;(with_reducible refine (cM.out _).mono ?_);rintro e7 w7 ⟨A7,m7,c7,rfl,r7,b7⟩;replace W:=aA W b7;clear b7)))
        have cN:Hid (mK d (u.take (j+1))=sm+1+rz):=by show _=_;rw [dR.out];omega
        go_wp2_with fail
        go_roundw
        ·exact ⟨j+1,by omega,by omega,by go_num,by rw [cN.out],W⟩
        simp [intOf];omega
       have cB:j=pl:=by omega
       have dj:=dF (by omega:pl<=j)
       have cD:Hid (mK d (u.take j)=VV):=by show _=_;rw [dS.out,List.take_of_length_le (by rw [aW.out,cB];exact Nat.le_refl _)]
       rw [cD.out]
       clear cB am c8
       go_wp2_with fail
       go_roundw
       ·exact ⟨q+1,VV,by omega,by go_num,rfl,aA ak.out (aA dK.out aw.out),.inr ⟨by have:=bN.out;omega,rfl⟩⟩
       simp [intOf];omega
      have dz:(z != YY)=true:=by simp [hz]
      have bl:=cg.out hz
      have cO:Hid (q+1<=k0/\sm=0∨k0<q+1/\sm=VV):=by
       rcases I with h|h
       ·exact .inl ⟨by omega,h.2⟩
       exact .inr ⟨by omega,h.2⟩
      clear hz I
      go_upto_region 13 with fail
      have av:=aX wr
      have a9:=aP wr
      refine wpB wr ?_
      repeat (go_big_quiet_step (fail))
      refine wpQuiet_nil ?_
      rintro wq ⟨⟨w6,W⟩,hw⟩
      replace hw:wq=w6:=hw
      subst hw
      clear av a9
      have aG:=Hd (aA ak.out W)
      clear W e0 e1 aH ch b3 cs2 b8 y5 y6 y7 ly
      go_wp2_with fail
      go_roundw
      ·exact ⟨q+1,sm,by omega,by go_num,rfl,aG.out,cO.out⟩
      simp [intOf];omega
     have dG:q=Z:=by omega
     have dq:=dF (by omega:Z<=q)
     have HR:Hid (sm=sinkD d x ⟨V,U⟩):=by
      show _=_
      rw [bR.out]
      have h1:=a5.out.1
      rw [aE.out] at h1
      rcases I with h|h
      ·omega
      exact h.2
     clear I dG
     go_wp2_with fail
     go_ret
     exact ⟨aL HR.out,aA g.out B.out⟩
    have db:(pb != U)=true:=by simp [hb]
    have bx:=Hd (HG.out (fun h=>hb (by injection h)))
    clear hb HG aR ao
    go_wp2_with fail
    go_roundw
    ·exact ⟨p+1,by omega,by go_num,by first|rfl|trivial,bx.out⟩
    simp [intOf];omega
   have da:(pa != V)=true:=by simp [ha]
   have bx:=Hd (HG.out (fun h=>ha (by injection h)))
   clear ha HG aR ao
   go_wp2_with fail
   go_roundw
   ·exact ⟨p+1,by omega,by go_num,by first|rfl|trivial,bx.out⟩
   simp [intOf];omega
  have aU:p=m:=by omega
  have dp:=dF (by omega:m<=p)
  have dy:Hid (∀j,j<k+1→¬l7 x j ⟨V,U⟩):=bU aq.out (fun h=>by
   have h1:=h.2
   rw [ci.out] at h1
   obtain ⟨j,hj,bw⟩:=List.getElem_of_mem h1
   refine cr.out j (by rw [aU,←bE.out];exact hj) ?_
   rw [List.getElem?_eq_getElem hj]
   exact bw)
  clear aU
  go_wp2_with fail
  go_roundw
  ·exact ⟨k+1,by omega,by go_num,Y.out,dy.out⟩
  simp [intOf];omega
 have cA:k=cn:=by omega
 have dW:=dF (by omega:cn<=k)
 have HR:Hid (0=sinkD d x ⟨V,U⟩):=by
  show _=_
  rw [rD fun j hj=>aq.out j (by rw [cA,←cy.out];exact hj.1) hj]
 clear aq cA
 obtain ⟨-,-,-,-,-,y5,ly⟩:=FR (aC al.out af.out)
 go_wp2_with fail
 go_ret
 exact ⟨aL HR.out,aA g.out al.out⟩
theorem wC (l:ai) (SA LA OA:Option Addr) (sn sc ln lc on oc:Nat) (it:Int) (es:List LeT) (U:Option Addr) (D W:Nat) (node:Int) (w:World) (h:fo w l SA LA OA sn sc ln lc on oc) (hf:bA l) (hE:RdC w w.heap.size (cO es) (.slice U D W)) (hK:∀e∈es,dQ l e) (bk:D<=100000) :
  Calls Tryz.prog 139 #[jI l SA LA OA sn sc ln lc on oc,.agg #[.int .i64 3,.int .i64 it,.slice U D W],.int .i64 node] w fun e w'=>e = .returned (.int .i64 (l5 l es node))/\Below w.heap.size w w':=by
 have aQ:=hE.esN
 obtain ⟨HE,ad⟩:=hd2 hE aQ
 clear hE aQ
 have G:=Hd (aD (aD (Below.refl w.heap.size w) (.cells (ak l SA LA OA sn sc ln lc on oc) 41)) (.cells #[.int .i64 3,.int .i64 it,.slice U D W] 89))
 have u:=bS (.cells #[.int .i64 3,.int .i64 it,.slice U D W] 89) (aI w (.cells (ak l SA LA OA sn sc ln lc on oc) 41))
 have K:=aI (w.alloc (.cells (ak l SA LA OA sn sc ln lc on oc) 41)) (.cells #[.int .i64 3,.int .i64 it,.slice U D W] 89)
 simp only [World.size_alloc] at K
 obtain ⟨aJ,aU⟩:=hd2 u K
 clear u K
 obtain ⟨ag,ae,aj⟩:=h.lens
 have a8:=hf.nseq
 have bl:=hf.nlut
 have a3:=hf.nout
 have bz:=hf.inp
 rw [ag] at a8
 rw [ae] at bl
 rw [aj] at a3
 obtain ⟨HN,HF,bM,bI,bD⟩:=hd5 h hf ag ae aj
 have bJ:Hid ((l.first:Int)=1+l.inputs+(sn:Int)):=by show _=_;unfold ai.first;omega
 have ay:Hid ((l.count:Int)=1+l.inputs+(sn:Int)+(ln:Int)):=by show _=_;unfold ai.count ai.first;omega
 clear h hf ag ae aj
 have al:=Hd hK
 clear hK
 by_cases J:node=0
 ·have HR:Hid (l5 l es node=0):=if_pos J
  have d0:(node==0)=true:=by simp [J]
  clear J
  go_enter Tryz.func139,Tryz.ntmps139
  go_upto_region 1 with fail
  generalize (w.alloc (.cells (ak l SA LA OA sn sc ln lc on oc) 41)).alloc (.cells #[.int .i64 3,.int .i64 it,.slice U D W] 89)=W9 at *
  go_wp2_with fail
  go_ret
  exact ⟨aL HR.out.symm,G.out⟩
 have ah:Hid (l5 l es node=match jK (es.map (cZ l)) node with
  | some k=>6+(k:Int)
  | none=>match jK (fE l es) node with
   | some k=>1+(k:Int)
   | none=>0):=if_neg J
 have d0:(node==0)=false:=by simp [J]
 have ax:=aJ
 have aE:=aU
 clear J
 go_enter Tryz.func139,Tryz.ntmps139
 go_upto_region 1 with fail
 generalize (w.alloc (.cells (ak l SA LA OA sn sc ln lc on oc) 41)).alloc (.cells #[.int .i64 3,.int .i64 it,.slice U D W] 89)=W9 at *
 have lx:=aB aJ.out
 have ly:=aB aU.out
 go_wp2_with fail
 clear lx ly
 go_loopw [7] (fun i wr=>∃k:Nat,k<=D/\i = .int .i64 k/\Below W9.heap.size W9 wr/\∀j,j<k→(es.map (cZ l))[j]?.getD 0≠node) (fun i _=>D - (intOf i).toNat)
 ·exact ⟨0,Nat.zero_le _,rfl,Below.refl _ _,fun j hj=>by omega⟩
 obtain ⟨k,hk,rfl,hb,z⟩:=hrel
 obtain ⟨g,H⟩:=hd2 hb z
 clear hb z
 by_cases a1:k<D
 ·have bj:=dT (by omega:k<D)
  have I:k<es.length:=by rw [ad.out];exact a1
  obtain ⟨be,oe,aR,ap,c0,c1⟩:=HE.out.es (k:=k) I
  have a7:=Hd aR
  have Q:=aA G.out g.out
  have bd:=aK Q ap
  rw [←Q.cell (p:=⟨be,oe+k * 2,none⟩) ap] at c0
  rw [←Q.cell (p:=⟨be,oe+k * 2+1,none⟩) ap] at c1
  clear Q aR
  have am:=Hd (al.out _ (List.getElem_mem I))
  have aq:=wV (l:=l) I
  have hG:cZ l ⟨(es[k]?.getD LeT.zero).lut,(es[k]?.getD LeT.zero).ff⟩≠node→∀j,j<k+1→(es.map (cZ l))[j]?.getD 0≠node:=fun h=>bU H.out (by rw [aq];exact h)
  have hS:cZ l ⟨(es[k]?.getD LeT.zero).lut,(es[k]?.getD LeT.zero).ff⟩=node→l5 l es node=6+(k:Int):=fun h=>by
   rw [ah.out,lI (k:=k) (by rw [List.length_map];exact I) (by rw [aq];exact h) H.out]
  rw [show es[k]=es[k]?.getD LeT.zero by rw [List.getElem?_eq_getElem I];rfl] at am
  obtain ⟨Z,B⟩:=hd2 hG hS
  clear I aq hG hS
  obtain rfl:=a7.out
  generalize es[k]?.getD LeT.zero=e at *
  obtain ⟨a,b⟩:=e
  simp only at c0 c1 Z B am
  obtain ⟨i0,i1⟩:=ib (by omega:k<D)
  have u:=aC g.out ax.out
  have K:=aC g.out aE.out
  obtain ⟨x0,x1,x2,x3⟩:=cs4 u
  obtain ⟨y0,y1,y2⟩:=cs3 K
  have lx:=aB u
  have ly:=aB K
  clear u K
  have ay:=Hd (fun (v:Sub wr)=>rT l SA LA OA sn sc ln lc on oc a b v.v (HN.out.below (aA (aA G.out g.out) v.h)) HF.out am.out)
  generalize cZ l ⟨a,b⟩=Y at *
  go_upto_region 6 with fail
  have aH:=aX wr
  have bf:=aP wr
  refine wpB wr ?_
  repeat (go_big_quiet_step ((first
   | (go_at_call 204;with_reducible exact aN (ay.out _)))))
  refine wpQuiet_nil ?_
  rintro wq ⟨⟨w5,hD⟩,hw⟩
  replace hw:wq=w5:=hw
  subst hw
  clear aH bf
  have av:=Hd (aA g.out hD)
  clear hD c0 c1 bd x0 x1 x2 x3 y0 y1 y2 lx ly
  by_cases hY:Y=node
  ·have dy:(Y==node)=true:=by simp [hY]
   have HR:=Hd (B.out hY)
   clear Z B hY
   go_wp2_with fail
   go_ret
   exact ⟨aL HR.out.symm,aA G.out av.out⟩
  have dy:(Y==node)=false:=by simp [hY]
  have ao:=Hd (Z.out hY)
  clear Z B hY
  go_wp2_with fail
  go_roundw
  ·exact ⟨k+1,by omega,by go_num,av.out,ao.out⟩
  simp [intOf];omega
 have aM:k=D:=by omega
 have bj:=dF (by omega:D<=k)
 have az:Hid (jK (es.map (cZ l)) node=none):=nM (fun j hj=>H.out j (by rw [aM,←ad.out];rwa [List.length_map] at hj))
 clear H aM
 have u:=aC g.out ax.out
 have K:=aC g.out aE.out
 obtain ⟨x0,x1,x2,x3⟩:=cs4 u
 obtain ⟨y0,y1,y2⟩:=cs3 K
 have lx:=aB u
 have ly:=aB K
 clear u K
 go_wp2_with fail
 refine (oM l SA LA OA sn sc ln lc on oc es U D W _ (HN.out.below (aA G.out g.out)) HF.out (HE.out.below (aA G.out g.out)) al.out bk).mono ?_
 rintro _ w3 ⟨PA,pn,pc,rfl,op,b3⟩
 have ar:=Hd op.ints
 have aw:=Hd (aA (aA G.out g.out) b3)
 have bE:pn<=1099511627776:=by
  have h1:=op.len
  have h2:(fE l es).length<=4 * D:=yo HF.out al.out (by rw [ad.out];exact Nat.le_refl _)
  omega
 clear b3 op x0 x1 x2 x3 y0 y1 y2 lx ly
 go_wp2_with fail
 go_loopw [9] (fun i wr=>∃q:Nat,q<=pn/\i = .int .i64 (q:Int)/\w3=wr/\∀j,j<q→(fE l es)[j]?.getD 0≠node) (fun i _=>pn - (intOf i).toNat)
 ·exact ⟨0,by omega,rfl,rfl,fun j hj=>by omega⟩
 obtain ⟨q,hq,rfl,rfl,z⟩:=hrel
 have R:=Hd z
 clear z
 by_cases V:q<pn
 ·have a2:=dT (by omega:q<pn)
  have aT:q<(fE l es).length:=by rw [ar.out.1];exact V
  obtain ⟨bp,op,aF,bH,aG⟩:=ar.out.2 (by omega)
  have bg:=Hd aF
  have cp:=aG q V
  have hG:(fE l es)[q]?.getD 0≠node→∀j,j<q+1→(fE l es)[j]?.getD 0≠node:=fun h=>bU R.out h
  have hS:(fE l es)[q]?.getD 0=node→l5 l es node=1+(q:Int):=fun h=>by
   rw [ah.out,az.out]
   show (match jK (fE l es) node with|some k=>1+(k:Int)|none=>0)=_
   rw [lI (k:=q) aT h R.out]
  obtain ⟨Z,B⟩:=hd2 hG hS
  clear aG aF hG hS aT
  obtain rfl:=bg.out
  generalize (fE l es)[q]?.getD 0=x at *
  obtain ⟨i0,i1⟩:=ib (by omega:q<pn)
  by_cases u:x=node
  ·have dx:(x==node)=true:=by simp [u]
   have HR:=Hd (B.out u)
   clear Z B u
   go_wp2_with fail
   go_ret
   exact ⟨aL HR.out.symm,aw.out⟩
  have dx:(x==node)=false:=by simp [u]
  have ao:=Hd (Z.out u)
  clear Z B u
  go_wp2_with fail
  go_roundw
  ·exact ⟨q+1,by omega,by go_num,by first|rfl|trivial,ao.out⟩
  simp [intOf];omega
 have aV:q=pn:=by omega
 have a2:=dF (by omega:pn<=q)
 have HR:Hid (l5 l es node=0):=by
  show _=_
  rw [ah.out,az.out]
  show (match jK (fE l es) node with|some k=>1+(k:Int)|none=>0)=_
  rw [nM (fun j hj=>R.out j (by rw [aV,←ar.out.1];exact hj))]
 clear R aV
 go_wp2_with fail
 go_ret
 exact ⟨aL HR.out.symm,aw.out⟩
theorem sK (d:Dev) (x:Lay) (SA LA OA BA CA PA RA:Option Addr) (sn sc ln lc on oc bn bc cn cc pn pc rn rc k:Nat) (node:Int) (w:World) (h:j5 w x SA LA OA BA CA PA RA sn sc ln lc on oc bn bc cn cc pn pc rn rc) (hf:iQ d x) (hl:xG x 1048576) (hk:k<bn) (h3:(jo x k).kind=3) :
  Calls Tryz.prog 56 #[.agg (dv d),sZ x SA LA OA BA CA PA RA sn sc ln lc on oc bn bc cn cc pn pc rn rc,.int .i64 (k:Int),.int .i64 node] w fun e w'=>e = .returned (.int .i64 (inpD d x k node))/\Below w.heap.size w w':=by
 obtain ⟨U,_,_,_⟩:=h.lens
 have a4:bn<=64:=by rw [←U];exact hf.pack.len
 have J:k<x.blocks.length:=by rw [U];exact hk
 obtain ⟨V,R,EA,en,ec,ag,I,c0,c1,c2,r2⟩:=h.bl.blk (k:=k) J
 have H:dI x.net (jo x k):=by unfold jo;rw [List.getElem?_eq_getElem J];exact hf.pack.fit _ (List.getElem_mem J)
 obtain ⟨bx,u⟩:∃b,jo x k=b:=⟨_,rfl⟩
 rw [show x.blocks[k]?.getD Blk.zero=bx from u] at c0 c1 r2
 rw [u] at H h3
 have ad:=lM H
 have q:=kH H
 obtain ⟨kd,it,es⟩:=bx
 simp only at c0 c1 q h3
 subst h3
 have a7:=Hd u
 have HE:=Hd (show RdC w w.heap.size (cO es) (.slice EA en ec) from r2)
 have bd:en<=2:=by rw [←HE.out.esN];exact q
 have ap:=Hd (show ∀e∈es,dQ x.net e from ad)
 have aO:=Hd (fun s=>ry hf.routes s)
 obtain ⟨H1,HF,ar⟩:=hd3 h hf hl
 have g:inpD d x k node=if l5 x.net es node=0 then 2 else if 6<=l5 x.net es node then 3 else min 100 (2+sinkD d x ⟨(k:Int),l5 x.net es node - 1⟩):=by unfold inpD;rw [u]
 have ae:=tX x.net es node
 have aq:=Hd ag
 clear h hf hl U J H u ad q r2 ag
 obtain rfl:=aq.out
 have j:=Hd (aD (aD (Below.refl w.heap.size w) (.cells (dv d) 36)) (.cells #[.int .i64 x.net.inputs,.slice SA sn sc,.slice LA ln lc,.slice OA on oc,.slice (some ⟨V,R,none⟩) bn bc,.slice CA cn cc,.slice PA pn pc,.slice RA rn rc] 46))
 have D:=bS (.cells #[.int .i64 x.net.inputs,.slice SA sn sc,.slice LA ln lc,.slice OA on oc,.slice (some ⟨V,R,none⟩) bn bc,.slice CA cn cc,.slice PA pn pc,.slice RA rn rc] 46) (aI w (.cells (dv d) 36))
 have B:=aI (w.alloc (.cells (dv d) 36)) (.cells #[.int .i64 x.net.inputs,.slice SA sn sc,.slice LA ln lc,.slice OA on oc,.slice (some ⟨V,R,none⟩) bn bc,.slice CA cn cc,.slice PA pn pc,.slice RA rn rc] 46)
 simp only [World.size_alloc] at B
 obtain ⟨ah,ai⟩:=hd2 D B
 clear D B
 have av:=aK j.out I
 rw [←j.out.cell (p:=⟨V,R+k * 3,none⟩) I] at c0
 rw [←j.out.cell (p:=⟨V,R+k * 3+1,none⟩) I] at c1
 rw [←j.out.cell (p:=⟨V,R+k * 3+2,none⟩) I] at c2
 obtain ⟨i0,i1⟩:=ib (by omega:k<bn)
 go_enter Tryz.func56,Tryz.ntmps56
 go_upto_region 1 with fail
 generalize (w.alloc (.cells (dv d) 36)).alloc (.cells #[.int .i64 x.net.inputs,.slice SA sn sc,.slice LA ln lc,.slice OA on oc,.slice (some ⟨V,R,none⟩) bn bc,.slice CA cn cc,.slice PA pn pc,.slice RA rn rc] 46)=K at *
 have D:=aC (Below.refl K.heap.size K) ah.out
 have B:=aC (Below.refl K.heap.size K) ai.out
 obtain ⟨x0,x1,x2,x3⟩:=cs4 D
 obtain ⟨y0,y1,y2,y3,y4,y5,y6,y7⟩:=cs8 B
 have lx:=aB D
 have ly:=aB B
 clear D B
 have Q:=Hd (fun (v:Sub K)=>wC x.net SA LA OA sn sc ln lc on oc it es EA en ec node v.v (H1.out.net.below (aA j.out v.h)) HF.out.pack.net (HE.out.below (aA j.out v.h)) ap.out (by omega))
 generalize l5 x.net es node=s at *
 have af:=aX K
 have aM:=aP K
 refine wpB K ?_
 repeat (go_big_quiet_step ((first
  | (go_at_call 139;with_reducible exact aN (Q.out _)))))
 refine wpQuiet_nil ?_
 rintro wq ⟨⟨w6,hD⟩,hw⟩
 replace hw:wq=w6:=hw
 subst hw
 have HD:=Hd hD
 have G:=Hd (aA j.out hD)
 clear af aM hD c0 c1 c2 av Q x0 x1 x2 x3 lx y0 y1 y2 y3 y4 y5 y6 y7 ly
 by_cases W:s=0
 ·rw [if_pos W] at g
  have Y:=Hd g
  have dz:(s==0)=true:=by simp [W]
  clear W g ae
  go_wp2_with fail
  go_ret
  exact ⟨aL Y.out.symm,G.out⟩
 rw [if_neg W] at g
 have dz:(s==0)=false:=by simp [W]
 by_cases Z:6<=s
 ·rw [if_pos Z] at g
  have Y:=Hd g
  have d6:decide (s≥6)=true:=decide_eq_true Z
  clear W g ae Z
  go_wp2_with fail
  go_ret
  exact ⟨aL Y.out.symm,G.out⟩
 rw [if_neg Z] at g
 have Y:=Hd g
 have d6:decide (s≥6)=false:=decide_eq_false Z
 have e1:IntKind.i64.wrap (s - 1)=s - 1:=IntWalk.i64_in _ (by omega)
 have D:=aC HD.out ah.out
 have B:=aC HD.out ai.out
 obtain ⟨x0,x1,x2,x3⟩:=cs4 D
 obtain ⟨y0,y1,y2,y3,y4,y5,y6,y7⟩:=cs8 B
 have lx:=aB D
 have ly:=aB B
 clear D B
 go_wp2_with fail
 refine (uA d x SA LA OA _ CA PA RA sn sc ln lc on oc bn bc cn cc pn pc rn rc (k:Int) (s - 1) _ (H1.out.below G.out) HF.out.routes ar.out).mono ?_
 rintro _ w2 ⟨rfl,b2⟩
 have ay:=Hd (aA G.out b2)
 have a6:=aO.out ⟨(k:Int),s - 1⟩
 clear b2 g x0 x1 x2 x3 lx y0 y1 y2 y3 y4 y5 y6 y7 ly
 generalize sinkD d x ⟨(k:Int),s - 1⟩=z at *
 have e2:IntKind.i64.wrap (2+z)=2+z:=IntWalk.i64_in _ (by omega)
 go_wp2_with fail
 all_goals
  go_ret
  refine ⟨aL ?_,ay.out⟩
  rw [Y.out]
  omega
end Go.Proofs.YtofihjoanjkdmaaGreat
