/- The way from the root of a route, the delay of a routing node; PathTo and nodeDelay of the program (printed by mkway.py). -/
import Derived.Test.YtofihjoanjkdmaaGreatLayG5
namespace Go.Proofs.YtofihjoanjkdmaaGreat
set_option maxHeartbeats 2000000
set_option maxRecDepth 100000
open Go.RowKit
def way (r:Rou):Nat→Nat→List Int
 | 0,_=>[r.nodes[0]?.getD 0]
 | n+1,k=>if k=0 then [r.nodes[0]?.getD 0] else way r n (r.from_[k]?.getD 0).toNat++[r.nodes[k]?.getD 0]
def fI (r:Rou) (k:Nat):List Int:=way r k k
def rq (r:Rou) (g:Nat):Prop:=∀i:Nat,0<i→i<g→0<=r.from_[i]?.getD 0/\r.from_[i]?.getD 0<(i:Int)
theorem yn (r:Rou) (n:Nat):way r n 0=[r.nodes[0]?.getD 0]:=by cases n <;> simp [way]
theorem DZ {r : Rou} {g : Nat} (h : rq r g) : ∀ n k : Nat, k <= n → k < g → way r n k = way r k k := by
  intro n
  induction n using Nat.strongRecOn with
  | _ n ih =>
    intro k j hk
    cases n with
    | zero => obtain rfl : k = 0 := by omega
              rfl
    | succ n =>
      cases k with
      | zero => rw [yn, yn]
      | succ k =>
        have h1 := h (k + 1) (by omega) hk
        rw [way, way, if_neg (by omega), if_neg (by omega)]
        have e1 : way r n (r.from_[k + 1]?.getD 0).toNat = way r (r.from_[k + 1]?.getD 0).toNat (r.from_[k + 1]?.getD 0).toNat := ih n (by omega) _ (by omega) (by omega)
        have e2 : way r k (r.from_[k + 1]?.getD 0).toNat = way r (r.from_[k + 1]?.getD 0).toNat (r.from_[k + 1]?.getD 0).toNat := by
          exact ih k (by omega) _ (by omega) (by omega)
        rw [e1, e2]
theorem nJ (r:Rou):fI r 0=[r.nodes[0]?.getD 0]:=rfl
theorem nK {r:Rou} {g k:Nat} (h:rq r g) (h0:0<k) (hk:k<g):fI r k=fI r (r.from_[k]?.getD 0).toNat++[r.nodes[k]?.getD 0]:=by
 have h1:=h k h0 hk
 obtain ⟨j,rfl⟩:∃j,k=j+1:=⟨k - 1,by omega⟩
 unfold fI
 rw [way,if_neg (by omega),DZ h j _ (by omega) (by omega)]
theorem pV {r:Rou} {g:Nat} (h:rq r g):∀k:Nat,k<g→(fI r k).length<=k+1:=by
 intro k
 induction k using Nat.strongRecOn with
 | _ k ih =>
  intro hk
  rcases Nat.eq_zero_or_pos k with rfl|h0
  ·simp [nJ]
  rw [nK h h0 hk,List.length_append,List.length_singleton]
  have h1:=h k h0 hk
  have:=ih (r.from_[k]?.getD 0).toNat (by omega) (by omega)
  omega
def ndD (d:Dev) (n:Int):Int:=if 7<=n % aQ d then 1+bR ((n % aQ d - 7) % d.T) else if n % aQ d<5 then 1 else 0
theorem Da {d:Dev} (g:dZ d=true) (n:Int):0<=ndD d n/\ndD d n<=3:=by
 have j:=ay g
 have h0:=Int.emod_nonneg (n % aQ d - 7) (show d.T≠0 by omega)
 unfold ndD bR
 split
 ·omega
 split <;> omega
def mK (d:Dev) (ys:List Int):Int:=(ys.map (ndD d)).sum
theorem CG (d:Dev) (n:Int) (w:World) (hn:fD d n=true) (R:¬7<=n % aQ d) :
  Calls Tryz.prog 231 #[.agg (dv d),.int .i64 n] w fun e w'=>∃a b,e = .returned (.tuple #[.int .i64 (n / aQ d),.int .i64 a,.int .i64 b,.bool false])/\Below w.heap.size w w':=by
 obtain ⟨z,n0,n1,J,H,Q,G⟩:=jG hn
 have B:=Hd hn
 have Y:=ay z
 have U:=eT z
 clear hn
 go_enter Tryz.func231,Tryz.ntmps231
 go_wp2_with fail
 refine (jO d n _ B.out).mono ?_
 rintro e W ⟨rfl,g⟩
 have j:=g.size
 simp only [World.size_alloc] at j
 obtain ⟨hcc,K⟩:=bG g
 have I:=Hd (aA (aD (Below.refl _ _) _) g)
 clear g
 generalize hk:n % aQ d=k at *
 generalize hq:n / aQ d=q at *
 have D:=Hd hq
 clear hk hq B
 have V:¬d.T=0:=by omega
 obtain ⟨u,e1⟩:∃u,(k - 7).tmod d.T=u:=⟨_,rfl⟩
 obtain ⟨v,e2⟩:∃v,IntKind.i64.wrap ((k - 7).tdiv d.T)=v:=⟨_,rfl⟩
 have e3:IntKind.i64.wrap (k - 7)=k - 7:=IntWalk.i64_in _ (by omega)
 have Z:decide (k≥7)=false:=by simpa using R
 go_wp2_with fail
 go_quiet (fail)
 go_wp2_with fail
 exact bodyPost_ret (v := .tuple #[.int .i64 q,.int .i64 v,.int .i64 u,.bool false]) (by simp [results,Tryz.results231,go_sem]) rfl ⟨v,u,by rw [D.out],bB I.out _⟩
theorem vv (d:Dev) (n:Int) (w:World) (hn:bI d n=true) :
  Calls Tryz.prog 141 #[.agg (dv d),.int .i64 n] w fun e w'=>e = .returned (.int .i64 (ndD d n))/\Below w.heap.size w w':=by
 have g:fD d n=true:=by unfold bI at hn;rw [Bool.and_eq_true] at hn;exact hn.1
 have hd:dZ d=true:=by unfold fD at g;rw [Bool.and_eq_true] at g;exact g.1
 have hT:=ay hd
 have I:=Hd (aD (Below.refl w.heap.size w) (.cells (dv d) 36))
 have H:=Hd (aI w (.cells (dv d) 36))
 obtain ⟨G,K,Q,J,U⟩:=bX H.out
 by_cases V:7<=n % aQ d
 ·have D:Hid (ndD d n=1+bR ((n % aQ d - 7) % d.T)):=if_pos V
  have h0:=Int.emod_nonneg (n % aQ d - 7) (show d.T≠0 by omega)
  have h1:=Int.emod_lt_of_pos (n % aQ d - 7) (show 0<d.T by omega)
  have hw:1<=bR ((n % aQ d - 7) % d.T)/\bR ((n % aQ d - 7) % d.T)<=2:=by unfold bR;omega
  go_enter Tryz.func141,Tryz.ntmps141
  go_upto_region 1 with fail
  generalize w.alloc (.cells (dv d) 36)=Z at *
  go_wp2_with fail
  refine (rO d n _ g V).mono ?_
  rintro _ w1 ⟨rfl,u⟩
  have j:=Hd (aA I.out u)
  clear u G K Q J U
  generalize hk:(n % aQ d - 7) % d.T=k at *
  clear hk
  go_wp2_with fail
  refine (eH k _ h0 (by omega)).mono ?_
  rintro _ Y ⟨rfl,rfl⟩
  generalize hz:bR k=z at *
  clear hz
  go_wp2_with fail
  go_ret
  exact ⟨aL D.out.symm,j.out⟩
 have B:ndD d n=if n % aQ d<5 then 1 else 0:=if_neg V
 go_enter Tryz.func141,Tryz.ntmps141
 go_upto_region 1 with fail
 generalize w.alloc (.cells (dv d) 36)=Z at *
 go_wp2_with fail
 refine (CG d n _ g (by omega)).mono ?_
 rintro _ w1 ⟨a,b,rfl,u⟩
 have j:=Hd (aA I.out u)
 have W:=aC u H.out
 clear u G K Q J U
 obtain ⟨G,K,Q,J,U⟩:=bX W
 clear W
 go_wp2_with fail
 refine (qK d n _).mono ?_
 rw [hn,Bool.true_and]
 by_cases h5:n % aQ d<5
 ·rw [decide_eq_true h5]
  rw [if_pos h5] at B
  have D:=Hd B
  rintro _ Y ⟨rfl,R⟩
  have q:=Hd (aA j.out R)
  clear R G K Q J U B
  go_wp2_with fail
  go_ret
  exact ⟨aL D.out.symm,q.out⟩
 rw [decide_eq_false h5]
 rw [if_neg h5] at B
 have D:=Hd B
 rintro _ Y ⟨rfl,R⟩
 have q:=Hd (aA j.out R)
 clear R G K Q J U B
 go_wp2_with fail
 go_ret
 exact ⟨aL D.out.symm,q.out⟩
theorem AC (r:Rou) (NA FA:Option Addr) (g nc fc k:Nat) (w:World) (hn:dE w NA g r.nodes) (hf:dE w FA g r.from_) (hb:rq r g) (hk:k<g) (a7:g<=1048576) :
  Calls Tryz.prog 140 #[.agg #[.slice NA g nc,.slice FA g fc],.int .i64 (k:Int)] w fun e w'=>∃A n c,e = .returned (.slice A n c)/\Own w.heap.size w' A n c (fI r k)/\Below w.heap.size w w':=by
 have ai:=Hd hb
 obtain ⟨bn,G,rfl,R,ao⟩:=hn.2 (by omega)
 obtain ⟨bf,z,rfl,Q,ak⟩:=hf.2 (by omega)
 have aj:Hid (∀k,k<g→∀v,Below w.heap.size w v→v.cell? ⟨bn,G+k,none⟩=some (.int .i64 (r.nodes[k]?.getD 0))):=fun k hk v hv=>(hv.cell (p:=⟨bn,G+k,none⟩) R).trans (ao k hk)
 have am:Hid (∀k,k<g→∀v,Below w.heap.size w v→v.cell? ⟨bf,z+k,none⟩=some (.int .i64 (r.from_[k]?.getD 0))):=fun k hk v hv=>(hv.cell (p:=⟨bf,z+k,none⟩) Q).trans (ak k hk)
 clear ao ak hn hf hb
 have H:=Hd (aD (Below.refl w.heap.size w) (.cells #[.slice (some ⟨bn,G,none⟩) g nc,.slice (some ⟨bf,z,none⟩) g fc] 114))
 have Z:=Hd (aI w (.cells #[.slice (some ⟨bn,G,none⟩) g nc,.slice (some ⟨bf,z,none⟩) g fc] 114))
 have d0:((g:Int) != (g:Int))=false:=by simp
 obtain ⟨i0,i1⟩:=ib (by omega:k<g)
 go_enter Tryz.func140,Tryz.ntmps140
 go_upto_region 1 with fail
 generalize w.alloc (.cells #[.slice (some ⟨bn,G,none⟩) g nc,.slice (some ⟨bf,z,none⟩) g fc] 114)=W9 at *
 obtain ⟨y0,y1,ly⟩:=fZ (Z.out)
 have e3:IntKind.i64.wrap ((g:Int) - 1)=(g:Int) - 1:=IntWalk.i64_in _ (by omega)
 go_wp2_with fail
 refine (aM (k:Int) 0 ((g:Int) - 1) _).mono ?_
 rw [aU.2 (show (0:Int)<=(k:Int)/\(k:Int)<=(g:Int) - 1 by omega)]
 rintro _ w1 ⟨rfl,rfl⟩
 go_wp2_with fail
 clear e3 y0 y1 ly
 go_loopw [1,5] (fun i v wr=>∃(j m:Nat) (bs:List Int) (A:Option Addr) (c:Nat),j<=k/\i = .int .i64 (j:Int)/\v = .slice A m c/\bs.length=m/\m+j<=k/\fI r k=fI r j++bs.reverse/\aJ W9 wr [.cel (aG bs) (.slice A m c)]) (fun i _ _=>(intOf i).toNat)
 ·exact ⟨k,0,[],none,0,by omega,rfl,rfl,rfl,by omega,by simp,(aJ.refl W9).pushNil 3 1⟩
 obtain ⟨j,m,bs,A1,c1,aH,rfl,rfl,au,bd,J,hs⟩:=hrel
 obtain ⟨I,ap,U⟩:=hd3 hs J au
 have u:=Hd (aA H.out hs.bel)
 clear hs J au i0 i1
 obtain ⟨y0,y1,ly⟩:=fZ (aC I.out.bel Z.out)
 by_cases ah:0<j
 ·have dj:decide ((j:Int)>0)=true:=by simp;omega
  have aq:j<g:=by omega
  have D:=nK ai.out ah aq
  have aN:=ai.out j ah aq
  have cn:=aj.out j (by omega) _ u.out
  have V:=aK u.out R
  have cf:=am.out j (by omega) _ u.out
  have ag:=aK u.out Q
  obtain ⟨F,hF⟩:∃F:Nat,r.from_[j]?.getD 0=(F:Int):=⟨(r.from_[j]?.getD 0).toNat,by omega⟩
  rw [hF] at cf aN D
  rw [Int.toNat_natCast] at D
  have HF:=Hd hF
  obtain ⟨Y,hY⟩:∃Y,r.nodes[j]?.getD 0=Y:=⟨_,rfl⟩
  rw [hY] at cn D
  have aP:=Hd D
  clear hF hY D
  obtain ⟨j0,j1⟩:=ib (by omega:j<g)
  have e3:IntKind.i64.wrap ((j:Int) - 1)=(j:Int) - 1:=IntWalk.i64_in _ (by omega)
  go_upto_region 6 with (at_builtin;refine dW rfl _ _ rfl _ (I.out.alloc _) 0 A1 m c1 bs Y _ (0,0) rfl rfl rfl (aI _ _) (by omega) ?_;intro g9 ad w9 S9 ae;have B:=Hd S9;clear S9 ae)
  clear y0 y1 ly cn cf V ag
  have K:=Hd (aA H.out B.out.bel)
  obtain ⟨y0,y1,ly⟩:=fZ (aC B.out.bel Z.out)
  have cf:=am.out j (by omega) _ K.out
  have ag:=aK K.out Q
  rw [HF.out] at cf
  go_wp2_with fail
  refine (aM (F:Int) 0 ((j:Int) - 1) _).mono ?_
  rw [aU.2 (show (0:Int)<=(F:Int)/\(F:Int)<=(j:Int) - 1 by omega)]
  rintro _ w4 ⟨rfl,rfl⟩
  go_wp2_with fail
  go_roundw
  ·exact ⟨F,m+1,bs++[Y],some ⟨g9,0,none⟩,ad,by omega,rfl,rfl,by rw [List.length_append,U.out];rfl,by omega,by rw [ap.out,aP.out,List.reverse_append,List.append_assoc];rfl,B.out⟩
  simp [intOf];omega
 have hj:j=0:=by omega
 have dj:decide ((j:Int)>0)=false:=by simp;omega
 have cn:=aj.out 0 (by omega) _ u.out
 have V:=aK u.out R
 rw [Nat.add_zero] at cn
 obtain ⟨Y0,hY⟩:∃Y,r.nodes[0]?.getD 0=Y:=⟨_,rfl⟩
 rw [hY] at cn
 have az:Hid (Y0 :: bs.reverse=fI r k):=by show _=_;rw [ap.out,hj,nJ,hY];rfl
 have j1:(0:Int)<(g:Int):=by omega
 have HO:=Hd (I.out.pushOwn (aD (Below.refl _ _) (.cells #[.int .i64 Y0] 3)) (Own.made (cur:=#[.int .i64 Y0]) (aI wr _) (Nat.le_refl _) (by unfold maxLen;simp) rfl rfl:Own wr.heap.size (wr.alloc (.cells #[.int .i64 Y0] 3)) (some ⟨wr.heap.size,0,none⟩) 1 1 [Y0]))
 have e3:IntKind.i64.wrap ((m:Int) - 1)=(m:Int) - 1:=IntWalk.i64_in _ (by omega)
 clear hY hj aH
 go_wp2_with fail
 clear y0 y1 ly cn V
 go_loopw [6,7] (fun v i wr=>∃(p q:Nat) (A:Option Addr) (c:Nat),p+q=m/\i = .int .i64 ((q:Int) - 1)/\v = .slice A (p+1) c/\aJ W9 wr [.cel (aG bs) (.slice A1 m c1),.cel (aG (Y0 :: (bs.drop q).reverse)) (.slice A (p+1) c)]) (fun _ i _=>(intOf i+1).toNat)
 ·exact ⟨0,m,_,_,by omega,rfl,rfl,by rw [List.drop_of_length_le (Nat.le_of_eq U.out)];exact HO.out⟩
 obtain ⟨p,q,A2,c2,bc,rfl,rfl,hs⟩:=hrel
 have I:=Hd hs
 clear hs
 cases q with
 | zero =>
  have HD:Hid (Y0 :: (bs.drop 0).reverse=fI r k):=by show _=_;rw [List.drop_zero];exact az.out
  have aF:=Hd (I.out.owned 1 rfl)
  go_wp2_with fail
  go_ret
  exact ⟨_,_,_,rfl,by rw [←HD.out];exact aF.out.more H.out.size,aA H.out I.out.bel⟩
 | succ q =>
  obtain ⟨bb,ob,hB,a3,av⟩:=(I.out.ints 0 rfl).2 (by omega)
  have cb:=av q (by omega)
  have W:q<bs.length:=by rw [U.out];omega
  have aS:Hid ((bs.drop q).reverse=(bs.drop (q+1)).reverse++[bs[q]?.getD 0]):=by
   show _=_
   rw [List.drop_eq_getElem_cons W,List.reverse_cons,List.getElem?_eq_getElem W]
   rfl
  have aV:=Hd hB
  clear av hB W
  rw [show ((q+1:Nat):Int) - 1=(q:Int) by omega]
  generalize bs[q]?.getD 0=Y at *
  generalize aR:(bs.drop (q+1)).reverse=DQ at *
  clear aR
  obtain ⟨i0,i1⟩:=ib (by omega:q<m)
  obtain rfl:=aV.out
  go_wp2_with (at_builtin;refine dW rfl _ _ rfl _ (I.out.alloc _) 1 A2 (p+1) c2 (Y0 :: DQ) Y _ (0,0) rfl rfl rfl (aI _ _) (by omega) ?_;intro g9 ad w9 S9 ae;have B:=Hd S9;clear S9 ae)
  go_roundw
  ·exact ⟨p+1,q,some ⟨g9,0,none⟩,ad,by omega,by go_num,rfl,by rw [aS.out];exact B.out⟩
  simp [intOf]
def jK:List Int→Int→Option Nat
 | [],_=>none
 | x :: xs,y=>if x=y then some 0 else (jK xs y).map (·+1)
theorem lI:∀{xs:List Int} {y:Int} {k:Nat},k<xs.length→xs[k]?.getD 0=y→(∀j,j<k→xs[j]?.getD 0≠y)→jK xs y=some k
 | [],_,_,h,_,_=>by simp at h
 | x :: xs,y,0,_,h,_=>by
  simp at h
  rw [jK,if_pos h]
 | x :: xs,y,k+1,hk,h,hn=>by
  have h0:=hn 0 (by omega)
  simp at h0
  rw [jK,if_neg h0,lI (k:=k) (by simpa using hk) (by simpa using h) (fun j hj=>by simpa using hn (j+1) (by omega))]
  rfl
theorem nM:∀{xs:List Int} {y:Int},(∀j,j<xs.length→xs[j]?.getD 0≠y)→jK xs y=none
 | [],_,_=>rfl
 | x :: xs,y,h=>by
  have h0:=h 0 (by simp)
  simp at h0
  rw [jK,if_neg h0,nM (fun j hj=>by simpa using h (j+1) (by simpa using hj))]
  rfl
def l5 (l:ai) (es:List LeT) (node:Int):Int :=
 if node=0 then 0 else match jK (es.map (cZ l)) node with
  | some k=>6+(k:Int)
  | none=>match jK (fE l es) node with
   | some k=>1+(k:Int)
   | none=>0
theorem wV {l:ai} {es:List LeT} {k:Nat} (h:k<es.length):(es.map (cZ l))[k]?.getD 0=cZ l ⟨(es[k]?.getD LeT.zero).lut,(es[k]?.getD LeT.zero).ff⟩:=by
 rw [List.getElem?_map,List.getElem?_eq_getElem h]
 rfl
theorem yo {l:ai} (hf:bA l) {es:List LeT} {n:Nat} (h:∀e∈es,dQ l e) (hn:es.length<=n):(fE l es).length<=4 * n:=by
 unfold fE FN
 have h1:=jQ ((es.flatMap (iB l)).filter fun x=>decide (x∉es.map (cZ l)))
 have h2:=List.length_filter_le (fun x=>decide (x∉es.map (cZ l))) (es.flatMap (iB l))
 have h3:=kX (f:=iB l) (m:=4) (xs:=es) fun e he=>(mW hf (h e he)).1
 omega
theorem uk (l:ai) (SA LA OA:Option Addr) (sn sc ln lc on oc:Nat) (it:Int) (es:List LeT) (V:Option Addr) (B Z:Nat) (node:Int) (w:World) (h:fo w l SA LA OA sn sc ln lc on oc) (hf:bA l) (hE:RdC w w.heap.size (cO es) (.slice V B Z)) (hK:∀e∈es,dQ l e) (bd:B<=100000) :
  Calls Tryz.prog 59 #[jI l SA LA OA sn sc ln lc on oc,.agg #[.int .i64 3,.int .i64 it,.slice V B Z],.int .i64 node] w fun e w'=>e = .returned (.int .i64 (l5 l es node))/\Below w.heap.size w w':=by
 have aQ:=hE.esN
 obtain ⟨HE,ae⟩:=hd2 hE aQ
 clear hE aQ
 have G:=Hd (aD (aD (Below.refl w.heap.size w) (.cells (ak l SA LA OA sn sc ln lc on oc) 41)) (.cells #[.int .i64 3,.int .i64 it,.slice V B Z] 89))
 have g:=bS (.cells #[.int .i64 3,.int .i64 it,.slice V B Z] 89) (aI w (.cells (ak l SA LA OA sn sc ln lc on oc) 41))
 have K:=aI (w.alloc (.cells (ak l SA LA OA sn sc ln lc on oc) 41)) (.cells #[.int .i64 3,.int .i64 it,.slice V B Z] 89)
 simp only [World.size_alloc] at K
 obtain ⟨aN,ao⟩:=hd2 g K
 clear g K
 obtain ⟨ah,af,al⟩:=h.lens
 have a5:=hf.nseq
 have bf:=hf.nlut
 have a1:=hf.nout
 have bu:=hf.inp
 rw [ah] at a5
 rw [af] at bf
 rw [al] at a1
 obtain ⟨HN,HF,bK,bG,bw⟩:=hd5 h hf ah af al
 have bH:Hid ((l.first:Int)=1+l.inputs+(sn:Int)):=by show _=_;unfold ai.first;omega
 have bz:Hid ((l.count:Int)=1+l.inputs+(sn:Int)+(ln:Int)):=by show _=_;unfold ai.count ai.first;omega
 clear h hf ah af al
 have am:=Hd hK
 clear hK
 by_cases J:node=0
 ·have HR:Hid (l5 l es node=0):=if_pos J
  have d0:(node==0)=true:=by simp [J]
  clear J
  go_enter Tryz.func59,Tryz.ntmps59
  go_upto_region 1 with fail
  generalize (w.alloc (.cells (ak l SA LA OA sn sc ln lc on oc) 41)).alloc (.cells #[.int .i64 3,.int .i64 it,.slice V B Z] 89)=W9 at *
  go_wp2_with fail
  go_ret
  exact ⟨aL HR.out.symm,G.out⟩
 have aj:Hid (l5 l es node=match jK (es.map (cZ l)) node with
  | some k=>6+(k:Int)
  | none=>match jK (fE l es) node with
   | some k=>1+(k:Int)
   | none=>0):=if_neg J
 have d0:(node==0)=false:=by simp [J]
 have az:=aN
 have aH:=ao
 clear J
 go_enter Tryz.func59,Tryz.ntmps59
 go_upto_region 1 with fail
 generalize (w.alloc (.cells (ak l SA LA OA sn sc ln lc on oc) 41)).alloc (.cells #[.int .i64 3,.int .i64 it,.slice V B Z] 89)=W9 at *
 have y2:=aF (k:=2) ao.out rfl
 have lx:=aB aN.out
 have ly:=aB ao.out
 go_wp2_with fail
 clear y2 lx ly
 go_loopw [16] (fun i wr=>∃k:Nat,k<=B/\i = .int .i64 k/\Below W9.heap.size W9 wr/\∀j,j<k→(es.map (cZ l))[j]?.getD 0≠node) (fun i _=>B - (intOf i).toNat)
 ·exact ⟨0,Nat.zero_le _,rfl,Below.refl _ _,fun j hj=>by omega⟩
 obtain ⟨k,hk,rfl,hb,u⟩:=hrel
 obtain ⟨D,H⟩:=hd2 hb u
 clear hb u
 by_cases aZ:k<B
 ·have bc:=dT (by omega:k<B)
  have I:k<es.length:=by rw [ae.out];exact aZ
  obtain ⟨be,oe,aR,ar,c0,c1⟩:=HE.out.es (k:=k) I
  have a4:=Hd aR
  have R:=aA G.out D.out
  have a8:=aK R ar
  rw [←R.cell (p:=⟨be,oe+k * 2,none⟩) ar] at c0
  rw [←R.cell (p:=⟨be,oe+k * 2+1,none⟩) ar] at c1
  clear R aR
  have ap:=Hd (am.out _ (List.getElem_mem I))
  have au:=wV (l:=l) I
  have hG:cZ l ⟨(es[k]?.getD LeT.zero).lut,(es[k]?.getD LeT.zero).ff⟩≠node→∀j,j<k+1→(es.map (cZ l))[j]?.getD 0≠node:=fun h=>bU H.out (by rw [au];exact h)
  have hS:cZ l ⟨(es[k]?.getD LeT.zero).lut,(es[k]?.getD LeT.zero).ff⟩=node→l5 l es node=6+(k:Int):=fun h=>by
   rw [aj.out,lI (k:=k) (by rw [List.length_map];exact I) (by rw [au];exact h) H.out]
  rw [show es[k]=es[k]?.getD LeT.zero by rw [List.getElem?_eq_getElem I];rfl] at ap
  obtain ⟨HG,z⟩:=hd2 hG hS
  clear I au hG hS
  obtain rfl:=a4.out
  generalize es[k]?.getD LeT.zero=e at *
  obtain ⟨a,b⟩:=e
  simp only at c0 c1 HG z ap
  obtain ⟨i0,i1⟩:=ib (by omega:k<B)
  have Q:=Hd (aD D.out (.cells #[.int .i64 a,.int .i64 b] 94))
  obtain ⟨q0,q1,lq⟩:=fZ (aI wr (.cells #[.int .i64 a,.int .i64 b] 94))
  have g:=aC Q.out az.out
  have K:=aC Q.out aH.out
  obtain ⟨x0,x1,x2,x3⟩:=cs4 g
  obtain ⟨y0,y1,y2⟩:=cs3 K
  have lx:=aB g
  have ly:=aB K
  clear g K
  go_wp2_with fail
  refine (qE l SA LA OA sn sc ln lc on oc a b _ (HN.out.below (aA G.out Q.out)) HF.out ap.out).mono ?_
  rintro _ w1 ⟨rfl,b1⟩
  have ax:=Hd (aA Q.out b1)
  clear b1 q0 q1 lq c0 c1 a8 x0 x1 x2 x3 y0 y1 y2 lx ly
  generalize cZ l ⟨a,b⟩=Y at *
  by_cases hY:Y=node
  ·have dy:(Y==node)=true:=by simp [hY]
   have HR:=Hd (z.out hY)
   clear HG z hY
   go_wp2_with fail
   go_ret
   exact ⟨aL HR.out.symm,aA G.out ax.out⟩
  have dy:(Y==node)=false:=by simp [hY]
  have aq:=Hd (HG.out hY)
  clear HG z hY
  go_wp2_with fail
  go_roundw
  ·exact ⟨k+1,by omega,by go_num,ax.out,aq.out⟩
  simp [intOf];omega
 have aO:k=B:=by omega
 have bc:=dF (by omega:B<=k)
 have aE:Hid (jK (es.map (cZ l)) node=none):=nM (fun j hj=>H.out j (by rw [aO,←ae.out];rwa [List.length_map] at hj))
 clear H aO
 have g:=aC D.out az.out
 have K:=aC D.out aH.out
 obtain ⟨x0,x1,x2,x3⟩:=cs4 g
 obtain ⟨y0,y1,y2⟩:=cs3 K
 have lx:=aB g
 have ly:=aB K
 clear g K
 go_wp2_with fail
 refine (mU l SA LA OA sn sc ln lc on oc 3 it es V B Z _ (HN.out.below (aA G.out D.out)) HF.out (HE.out.below (aA G.out D.out)) (kF.2 am.out) bd).mono ?_
 rintro _ w3 ⟨PA,pn,pc,rfl,op,b3⟩
 have av:=Hd (show dE w3 PA pn (fE l es) from op.ints)
 have ay:=Hd (aA (aA G.out D.out) b3)
 have bx:pn<=1099511627776:=by
  have h1:=op.len
  have h2:(fE l es).length<=4 * B:=yo HF.out am.out (by rw [ae.out];exact Nat.le_refl _)
  change (fE l es).length=pn at h1
  omega
 clear b3 op x0 x1 x2 x3 y0 y1 y2 lx ly
 go_wp2_with fail
 go_loopw [33] (fun i wr=>∃q:Nat,q<=pn/\i = .int .i64 (q:Int)/\w3=wr/\∀j,j<q→(fE l es)[j]?.getD 0≠node) (fun i _=>pn - (intOf i).toNat)
 ·exact ⟨0,by omega,rfl,rfl,fun j hj=>by omega⟩
 obtain ⟨q,hq,rfl,rfl,u⟩:=hrel
 have U:=Hd u
 clear u
 by_cases W:q<pn
 ·have a0:=dT (by omega:q<pn)
  have aT:q<(fE l es).length:=by rw [av.out.1];exact W
  obtain ⟨bp,op,aJ,bF,aM⟩:=av.out.2 (by omega)
  have a9:=Hd aJ
  have cp:=aM q W
  have hG:(fE l es)[q]?.getD 0≠node→∀j,j<q+1→(fE l es)[j]?.getD 0≠node:=fun h=>bU U.out h
  have hS:(fE l es)[q]?.getD 0=node→l5 l es node=1+(q:Int):=fun h=>by
   rw [aj.out,aE.out]
   show (match jK (fE l es) node with|some k=>1+(k:Int)|none=>0)=_
   rw [lI (k:=q) aT h U.out]
  obtain ⟨HG,z⟩:=hd2 hG hS
  clear aM aJ hG hS aT
  obtain rfl:=a9.out
  generalize (fE l es)[q]?.getD 0=x at *
  obtain ⟨i0,i1⟩:=ib (by omega:q<pn)
  by_cases g:x=node
  ·have dx:(x==node)=true:=by simp [g]
   have HR:=Hd (z.out g)
   clear HG z g
   go_wp2_with fail
   go_ret
   exact ⟨aL HR.out.symm,ay.out⟩
  have dx:(x==node)=false:=by simp [g]
  have aq:=Hd (HG.out g)
  clear HG z g
  go_wp2_with fail
  go_roundw
  ·exact ⟨q+1,by omega,by go_num,by first|rfl|trivial,aq.out⟩
  simp [intOf];omega
 have aU:q=pn:=by omega
 have a0:=dF (by omega:pn<=q)
 have HR:Hid (l5 l es node=0):=by
  show _=_
  rw [aj.out,aE.out]
  show (match jK (fE l es) node with|some k=>1+(k:Int)|none=>0)=_
  rw [nM (fun j hj=>U.out j (by rw [aU,←av.out.1];exact hj))]
 clear U aU
 go_wp2_with fail
 go_ret
 exact ⟨aL HR.out.symm,ay.out⟩
def ru (x:Lay) (i:Nat):Rou:=x.routes[i]?.getD Rou.zero
def wW (x:Lay) (i:Nat):Cn:=x.conns[i]?.getD Cn.zero
def oP (d:Dev) (y:Int):Int:=if 7<=y % aQ d then bR ((y % aQ d - 7) % d.T) else 0
def ul (d:Dev) (x:Lay) (i:Nat) (s:ah):Int:=match jK (ru x i).nodes (bO d x.place s) with
 | some k=>mK d (fI (ru x i) k)
 | none=>0
def l7 (x:Lay) (i:Nat) (s:ah):Prop:=i<x.conns.length/\s∈(wW x i).sinks
noncomputable def sinkD (d:Dev) (x:Lay) (s:ah):Int:=@dite Int (∃i,l7 x i s) (Classical.propDecidable _) (fun h=>ul d x (Classical.choose h) s) (fun _=>0)
theorem qY {d:Dev} {x:Lay} {i:Nat} {s:ah} (h:d9 d x.place x.conns x.routes) (hi:l7 x i s):bO d x.place s∈(ru x i).nodes :=
 (h.fit i hi.1).2.sinks _ (List.mem_map_of_mem hi.2)
theorem um {rs:List Rou} (h:(rs.flatMap Rou.nodes).Nodup) {i j:Nat} {y:Int} (g:i<j) (hi:y∈(rs[i]?.getD Rou.zero).nodes) (hj:y∈(rs[j]?.getD Rou.zero).nodes):False:=by
 rcases Nat.lt_or_ge j rs.length with h1|h1
 ·rw [←List.take_append_drop (i+1) rs,List.flatMap_append,List.nodup_append] at h
  refine h.2.2 y (List.mem_flatMap.2 ⟨rs[i],?_,?_⟩) y (List.mem_flatMap.2 ⟨rs[j],?_,?_⟩) rfl
  ·exact List.mem_take_iff_getElem.2 ⟨i,by omega,rfl⟩
  ·rw [List.getElem?_eq_getElem (by omega)] at hi
   exact hi
  ·exact List.mem_drop_iff_getElem.2 ⟨j - (i+1),by omega,by simp [show i+1+(j - (i+1))=j by omega]⟩
  rw [List.getElem?_eq_getElem h1] at hj
  exact hj
 rw [List.getElem?_eq_none h1] at hj
 simp [Rou.zero] at hj
theorem Db {d:Dev} {x:Lay} {i j:Nat} {s:ah} (h:d9 d x.place x.conns x.routes) (hi:l7 x i s) (hj:l7 x j s):i=j:=by
 rcases Nat.lt_trichotomy i j with h1|h1|h1
 ·exact (um h.once h1 (qY h hi) (qY h hj)).elim
 ·exact h1
 exact (um h.once h1 (qY h hj) (qY h hi)).elim
theorem uo {d:Dev} {x:Lay} {i:Nat} {s:ah} (h:d9 d x.place x.conns x.routes) (hi:l7 x i s):sinkD d x s=ul d x i s:=by
 unfold sinkD
 have he:∃i,l7 x i s:=⟨i,hi⟩
 rw [dif_pos he,Db h (Classical.choose_spec he) hi]
theorem rD {d:Dev} {x:Lay} {s:ah} (h:∀i,¬l7 x i s):sinkD d x s=0:=by
 unfold sinkD
 rw [dif_neg fun ⟨i,hi⟩=>h i hi]
theorem rq.of {d:Dev} {src:Int} {g:List Int} {r:Rou} (h:dB d src g r):rq r r.nodes.length:=fun i h0 hi=>(h.step i h0 hi).1
theorem rE {r:Rou} {g:Nat} (h:rq r g):∀k:Nat,k<g→(fI r k)[0]?.getD 0=r.nodes[0]?.getD 0/\1<=(fI r k).length:=by
 intro k
 induction k using Nat.strongRecOn with
 | _ k ih =>
  intro hk
  rcases Nat.eq_zero_or_pos k with rfl|h0
  ·simp [nJ]
  have h1:=h k h0 hk
  have h2:=ih (r.from_[k]?.getD 0).toNat (by omega) (by omega)
  rw [nK h h0 hk,List.length_append,List.getElem?_append_left (by omega)]
  exact ⟨h2.1,by omega⟩
theorem wX {r:Rou} {q:Nat} (h:rq r q):∀k:Nat,k<q→∀j,0<j→j<(fI r k).length→∃m,0<m/\m<q/\(fI r k)[j]?.getD 0=r.nodes[m]?.getD 0:=by
 intro k
 induction k using Nat.strongRecOn with
 | _ k ih =>
  intro hk j hj g
  rcases Nat.eq_zero_or_pos k with rfl|h0
  ·rw [nJ] at g
   simp at g
   omega
  have h1:=h k h0 hk
  rw [nK h h0 hk] at g ⊢
  rw [List.length_append,List.length_singleton] at g
  rcases Nat.lt_or_ge j (fI r (r.from_[k]?.getD 0).toNat).length with h2|h2
  ·rw [List.getElem?_append_left h2]
   exact ih _ (by omega) (by omega) j hj h2
  rw [List.getElem?_append_right h2,show j - (fI r (r.from_[k]?.getD 0).toNat).length=0 by omega]
  exact ⟨k,h0,hk,rfl⟩
theorem AJ {d:Dev} {src:Int} {g:List Int} {r:Rou} (h:dB d src g r) {m:Nat} (h0:0<m) (j:m<r.nodes.length):bI d (r.nodes[m]?.getD 0)=true/\¬(r.nodes[m]?.getD 0 % aQ d=5∨r.nodes[m]?.getD 0 % aQ d=6):=by
 have h1:=(h.step m h0 j).2
 unfold jT at h1
 split at h1
 ·rename_i h2;exact h2
 simp at h1
theorem CJ {d:Dev} {y:Int} (h:¬(y % aQ d=5∨y % aQ d=6)):1+oP d y=ndD d y:=by
 unfold oP ndD
 split
 ·rfl
 rw [if_pos (by omega)]
 rfl
theorem Dc {d:Dev} {y:Int} (h:y % aQ d=5∨y % aQ d=6):ndD d y=0:=by
 unfold ndD
 rw [if_neg (by omega),if_neg (by omega)]
theorem CK {d:Dev} (g:dZ d=true) (y:Int):0<=oP d y/\oP d y<=2:=by
 have j:=ay g
 have h0:=Int.emod_nonneg (y % aQ d - 7) (show d.T≠0 by omega)
 unfold oP bR
 split <;> omega
theorem uq (d:Dev):mK d []=0:=rfl
theorem tV (d:Dev) (xs ys:List Int):mK d (xs++ys)=mK d xs+mK d ys:=by
 unfold mK
 rw [List.map_append,List.sum_append]
theorem yt (d:Dev) (y:Int):mK d [y]=ndD d y:=by simp [mK]
theorem tC {d:Dev} {ys:List Int} {j:Nat} (h:j<ys.length):mK d (ys.take (j+1))=mK d (ys.take j)+ndD d (ys[j]?.getD 0):=by
 rw [bN (z:=0) h,tV,yt]
theorem xO {d:Dev} (g:dZ d=true) (ys:List Int):0<=mK d ys/\mK d ys<=3 * (ys.length:Int):=by
 induction ys with
 | nil=>rw [uq];simp
 | cons y ys ih =>
  have h1:=Da g y
  rw [show y :: ys=[y]++ys from rfl,tV,yt,List.length_append,List.length_singleton]
  omega
theorem qZ:∀{xs:List Int} {y:Int} {k:Nat},jK xs y=some k→k<xs.length/\xs[k]?.getD 0=y
 | [],_,_,h=>by simp [jK] at h
 | x :: xs,y,k,h=>by
  rw [jK] at h
  split at h
  ·injection h with h
   subst h
   rename_i e
   exact ⟨by simp,by simpa using e⟩
  rw [Option.map_eq_some_iff] at h
  obtain ⟨j,h1,rfl⟩:=h
  have:=qZ h1
  exact ⟨by simpa using this.1,by simpa using this.2⟩
theorem yu {xs:List Int} {y:Int} {k:Nat} (hn:xs.Nodup) (hk:k<xs.length) (h:xs[k]?.getD 0=y):jK xs y=some k:=by
 refine lI hk h fun j hj g=>?_
 rw [List.getElem?_eq_getElem (by omega)] at g
 rw [List.getElem?_eq_getElem hk] at h
 have h1:xs[j]=xs[k]:=by simpa using g.trans h.symm
 have:=(List.getElem_inj hn).1 h1
 omega
theorem tX (l:ai) (es:List LeT) (node:Int):0<=l5 l es node:=by
 unfold l5
 split
 ·omega
 split
 ·omega
 split <;> omega
def jo (x:Lay) (k:Nat):Blk:=x.blocks[k]?.getD Blk.zero
noncomputable def inpD (d:Dev) (x:Lay) (k:Nat) (node:Int):Int :=
 if l5 x.net (jo x k).les node=0 then 2 else if 6<=l5 x.net (jo x k).les node then 3 else min 100 (2+sinkD d x ⟨(k:Int),l5 x.net (jo x k).les node - 1⟩)
theorem ry {d:Dev} {x:Lay} (h:d9 d x.place x.conns x.routes) (s:ah):0<=sinkD d x s/\sinkD d x s<=3000:=by
 by_cases hi:∃i,l7 x i s
 ·obtain ⟨i,hi⟩:=hi
  rw [uo h hi]
  unfold ul
  have hf:=(h.fit i hi.1).2
  split
  ·rename_i k hk
   have h1:=qZ hk
   have h2:=pV (rq.of hf) k h1.1
   have h3:=xO hf.dev (fI (ru x i) k)
   have h4:=hf.bd
   have h5:k<(ru x i).nodes.length:=h1.1
   change (ru x i).nodes.length<=828 at h4
   change (fI (ru x i) k).length<=k+1 at h2
   omega
  omega
 rw [rD fun i h=>hi ⟨i,h⟩]
 omega
end Go.Proofs.YtofihjoanjkdmaaGreat
