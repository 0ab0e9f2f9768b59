/- The way from the root of a route, the delay of a routing node; PathTo and nodeDelay of the program (printed by mkway.py). -/
import Derived.Test.YtofihjoanjkdmaaGreatLayG5
import Derived.Test.YtofihjoanjkdmaaGreatSrs
namespace Go.Proofs.YtofihjoanjkdmaaGreat
set_option maxHeartbeats 2000000
set_option maxRecDepth 100000
open Go.RowKit
def way (r:Rou):Nat→Nat→List Int
 | 0,_=>[r.nodes[0]?.getD 0]
 | n+1,k=>if k=0 then [r.nodes[0]?.getD 0] else way r n (r.from_[k]?.getD 0).toNat++[r.nodes[k]?.getD 0]
def Fu (r:Rou) (g:Nat):Prop:=∀i:Nat,0<i→i<g→0<=r.from_[i]?.getD 0/\r.from_[i]?.getD 0<(i:Int)
def ku:List Int→Int→Option Nat
 | [],_=>none
 | x :: xs,y=>if x=y then some 0 else (ku xs y).map (·+1)
theorem lN:∀{xs:List Int} {y:Int} {k:Nat},k<xs.length→xs[k]?.getD 0=y→(∀j,j<k→xs[j]?.getD 0≠y)→ku xs y=some k
 | [],_,_,h,_,_=>by simp at h
 | x :: xs,y,0,_,h,_=>by
  simp at h
  rw [ku,if_pos h]
 | x :: xs,y,k+1,hk,h,hn=>by
  have h0:=hn 0 (by omega)
  simp at h0
  rw [ku,if_neg h0,lN (k:=k) (by simpa using hk) (by simpa using h) (fun j hj=>by simpa using hn (j+1) (by omega))]
  rfl
theorem lQ:∀{xs:List Int} {y:Int},(∀j,j<xs.length→xs[j]?.getD 0≠y)→ku xs y=none
 | [],_,_=>rfl
 | x :: xs,y,h=>by
  have h0:=h 0 (by simp)
  simp at h0
  rw [ku,if_neg h0,lQ (fun j hj=>by simpa using h (j+1) (by simpa using hj))]
  rfl
def iM (l:ag) (es:List LeT) (node:Int):Int :=
 if node=0 then 0 else match ku (es.map (dA l)) node with
  | some k=>6+(k:Int)
  | none=>match ku (fD l es) node with
   | some k=>1+(k:Int)
   | none=>0
theorem wV {l:ag} {es:List LeT} {k:Nat} (h:k<es.length):(es.map (dA l))[k]?.getD 0=dA l ⟨(es[k]?.getD LeT.zero).lut,(es[k]?.getD LeT.zero).ff⟩:=by
 rw [List.getElem?_map,List.getElem?_eq_getElem h]
 rfl
theorem yw {l:ag} (hf:az l) {es:List LeT} {n:Nat} (h:∀e∈es,dG l e) (hn:es.length<=n):(fD l es).length<=4 * n:=by
 unfold fD FY
 have h1:=jQ ((es.flatMap (iB l)).filter fun x=>decide (x∉es.map (dA l)))
 have h2:=List.length_filter_le (fun x=>decide (x∉es.map (dA l))) (es.flatMap (iB l))
 have h3:=kg (f:=iB l) (m:=4) (xs:=es) fun e he=>(mZ hf (h e he)).1
 omega
theorem qP (l:ag) (SA LA OA:Option Addr) (sn sc ln lc on oc:Nat) (it:Int) (es:List LeT) (EA:Option Addr) (z W:Nat) (node:Int) (w:World) (h:fU w l SA LA OA sn sc ln lc on oc) (hf:az l) (hE:RdC w w.heap.size (cZ es) (.slice EA z W)) (hK:∀e∈es,dG l e) (a9:z<=100000) :
  Calls Tryz.prog 59 #[jE l SA LA OA sn sc ln lc on oc,.agg #[.int .i64 3,.int .i64 it,.slice EA z W],.int .i64 node] w fun e w'=>e = .returned (.int .i64 (iM l es node))/\Below w.heap.size w w':=by
 have aS:=hE.esN
 obtain ⟨HE,am⟩:=hd2 hE aS
 clear hE aS
 have G:=Hd (aB (aB (Below.refl w.heap.size w) (.cells (ai l SA LA OA sn sc ln lc on oc) 41)) (.cells #[.int .i64 3,.int .i64 it,.slice EA z W] 89))
 have B:=aW (.cells #[.int .i64 3,.int .i64 it,.slice EA z W] 89) (aI w (.cells (ai l SA LA OA sn sc ln lc on oc) 41))
 have K:=aI (w.alloc (.cells (ai l SA LA OA sn sc ln lc on oc) 41)) (.cells #[.int .i64 3,.int .i64 it,.slice EA z W] 89)
 simp only [World.size_alloc] at K
 obtain ⟨aT,al⟩:=hd2 B K
 clear B K
 obtain ⟨aj,ae,aq⟩:=h.lens
 have a2:=hf.nseq
 have bk:=hf.nlut
 have a1:=hf.nout
 have bF:=hf.inp
 rw [aj] at a2
 rw [ae] at bk
 rw [aq] at a1
 obtain ⟨HN,HF,bJ,bw,bE⟩:=hd5 h hf aj ae aq
 have bx:Hid ((l.first:Int)=1+l.inputs+(sn:Int)):=by show _=_;unfold ag.first;omega
 have bC:Hid ((l.count:Int)=1+l.inputs+(sn:Int)+(ln:Int)):=by show _=_;unfold ag.count ag.first;omega
 clear h hf aj ae aq
 have ak:=Hd hK
 clear hK
 by_cases I:node=0
 ·have HR:Hid (iM l es node=0):=if_pos I
  have d0:(node==0)=true:=by simp [I]
  clear I
  go_enter Tryz.func59,Tryz.ntmps59
  go_upto_region 1 with fail
  generalize (w.alloc (.cells (ai l SA LA OA sn sc ln lc on oc) 41)).alloc (.cells #[.int .i64 3,.int .i64 it,.slice EA z W] 89)=W9 at *
  go_wp2_with fail
  go_ret
  exact ⟨aL HR.out.symm,G.out⟩
 have ah:Hid (iM l es node=match ku (es.map (dA l)) node with
  | some k=>6+(k:Int)
  | none=>match ku (fD l es) node with
   | some k=>1+(k:Int)
   | none=>0):=if_neg I
 have d0:(node==0)=false:=by simp [I]
 have aJ:=aT
 have aM:=al
 clear I
 go_enter Tryz.func59,Tryz.ntmps59
 go_upto_region 1 with fail
 generalize (w.alloc (.cells (ai l SA LA OA sn sc ln lc on oc) 41)).alloc (.cells #[.int .i64 3,.int .i64 it,.slice EA z W] 89)=W9 at *
 have y2:=aF (k:=2) al.out rfl
 have lx:=aC aT.out
 have ly:=aC al.out
 go_wp2_with fail
 clear y2 lx ly
 go_loopw [16] (fun i wr=>∃k:Nat,k<=z/\i = .int .i64 k/\Below W9.heap.size W9 wr/\∀j,j<k→(es.map (dA l))[j]?.getD 0≠node) (fun i _=>z - (intOf i).toNat)
 ·exact ⟨0,Nat.zero_le _,rfl,Below.refl _ _,fun j hj=>by omega⟩
 obtain ⟨k,hk,rfl,hb,u⟩:=hrel
 obtain ⟨D,H⟩:=hd2 hb u
 clear hb u
 by_cases bj:k<z
 ·have bb:=dT (by omega:k<z)
  have J:k<es.length:=by rw [am.out];exact bj
  obtain ⟨be,oe,ay,au,c0,c1⟩:=HE.out.es (k:=k) J
  have bf:=Hd ay
  have R:=aA G.out D.out
  have bh:=aK R au
  rw [←R.cell (p:=⟨be,oe+k * 2,none⟩) au] at c0
  rw [←R.cell (p:=⟨be,oe+k * 2+1,none⟩) au] at c1
  clear R ay
  have ap:=Hd (ak.out _ (List.getElem_mem J))
  have ar:=wV (l:=l) J
  have hG:dA l ⟨(es[k]?.getD LeT.zero).lut,(es[k]?.getD LeT.zero).ff⟩≠node→∀j,j<k+1→(es.map (dA l))[j]?.getD 0≠node:=fun h=>bW H.out (by rw [ar];exact h)
  have hS:dA l ⟨(es[k]?.getD LeT.zero).lut,(es[k]?.getD LeT.zero).ff⟩=node→iM l es node=6+(k:Int):=fun h=>by
   rw [ah.out,lN (k:=k) (by rw [List.length_map];exact J) (by rw [ar];exact h) H.out]
  rw [show es[k]=es[k]?.getD LeT.zero by rw [List.getElem?_eq_getElem J];rfl] at ap
  obtain ⟨V,g⟩:=hd2 hG hS
  clear J ar hG hS
  obtain rfl:=bf.out
  generalize es[k]?.getD LeT.zero=e at *
  obtain ⟨a,b⟩:=e
  simp only at c0 c1 V g ap
  obtain ⟨i0,i1⟩:=ib (by omega:k<z)
  have U:=Hd (aB D.out (.cells #[.int .i64 a,.int .i64 b] 94))
  obtain ⟨q0,q1,lq⟩:=jv (aI wr (.cells #[.int .i64 a,.int .i64 b] 94))
  have B:=aD U.out aJ.out
  have K:=aD U.out aM.out
  obtain ⟨x0,x1,x2,x3⟩:=cs4 B
  obtain ⟨y0,y1,y2⟩:=cs3 K
  have lx:=aC B
  have ly:=aC K
  clear B K
  go_wp2_with fail
  refine (qK l SA LA OA sn sc ln lc on oc a b _ (HN.out.below (aA G.out U.out)) HF.out ap.out).mono ?_
  rintro _ w1 ⟨rfl,b1⟩
  have aO:=Hd (aA U.out b1)
  clear b1 q0 q1 lq c0 c1 bh x0 x1 x2 x3 y0 y1 y2 lx ly
  generalize dA l ⟨a,b⟩=Y at *
  by_cases hY:Y=node
  ·have dy:(Y==node)=true:=by simp [hY]
   have HR:=Hd (g.out hY)
   clear V g hY
   go_wp2_with fail
   go_ret
   exact ⟨aL HR.out.symm,aA G.out aO.out⟩
  have dy:(Y==node)=false:=by simp [hY]
  have av:=Hd (V.out hY)
  clear V g hY
  go_wp2_with fail
  go_roundw
  ·exact ⟨k+1,by omega,by go_num,aO.out,av.out⟩
  simp [intOf];omega
 have ax:k=z:=by omega
 have bb:=dF (by omega:z<=k)
 have aR:Hid (ku (es.map (dA l)) node=none):=lQ (fun j hj=>H.out j (by rw [ax,←am.out];rwa [List.length_map] at hj))
 clear H ax
 have B:=aD D.out aJ.out
 have K:=aD D.out aM.out
 obtain ⟨x0,x1,x2,x3⟩:=cs4 B
 obtain ⟨y0,y1,y2⟩:=cs3 K
 have lx:=aC B
 have ly:=aC K
 clear B K
 go_wp2_with fail
 refine (mX l SA LA OA sn sc ln lc on oc 3 it es EA z W _ (HN.out.below (aA G.out D.out)) HF.out (HE.out.below (aA G.out D.out)) (kJ.2 ak.out) a9).mono ?_
 rintro _ w3 ⟨PA,pn,pc,rfl,op,b3⟩
 have ao:=Hd (show dP w3 PA pn (fD l es) from op.ints)
 have aV:=Hd (aA (aA G.out D.out) b3)
 have bG:pn<=1099511627776:=by
  have h1:=op.len
  have h2:(fD l es).length<=4 * z:=yw HF.out ak.out (by rw [am.out];exact Nat.le_refl _)
  change (fD l es).length=pn at h1
  omega
 clear b3 op x0 x1 x2 x3 y0 y1 y2 lx ly
 go_wp2_with fail
 go_loopw [33] (fun i wr=>∃q:Nat,q<=pn/\i = .int .i64 (q:Int)/\w3=wr/\∀j,j<q→(fD l es)[j]?.getD 0≠node) (fun i _=>pn - (intOf i).toNat)
 ·exact ⟨0,by omega,rfl,rfl,fun j hj=>by omega⟩
 obtain ⟨q,hq,rfl,rfl,u⟩:=hrel
 have Q:=Hd u
 clear u
 by_cases Z:q<pn
 ·have a3:=dT (by omega:q<pn)
  have aH:q<(fD l es).length:=by rw [ao.out.1];exact Z
  obtain ⟨bp,op,aP,bD,aG⟩:=ao.out.2 (by omega)
  have bc:=Hd aP
  have cp:=aG q Z
  have hG:(fD l es)[q]?.getD 0≠node→∀j,j<q+1→(fD l es)[j]?.getD 0≠node:=fun h=>bW Q.out h
  have hS:(fD l es)[q]?.getD 0=node→iM l es node=1+(q:Int):=fun h=>by
   rw [ah.out,aR.out]
   show (match ku (fD l es) node with|some k=>1+(k:Int)|none=>0)=_
   rw [lN (k:=q) aH h Q.out]
  obtain ⟨V,g⟩:=hd2 hG hS
  clear aG aP hG hS aH
  obtain rfl:=bc.out
  generalize (fD l es)[q]?.getD 0=x at *
  obtain ⟨i0,i1⟩:=ib (by omega:q<pn)
  by_cases B:x=node
  ·have dx:(x==node)=true:=by simp [B]
   have HR:=Hd (g.out B)
   clear V g B
   go_wp2_with fail
   go_ret
   exact ⟨aL HR.out.symm,aV.out⟩
  have dx:(x==node)=false:=by simp [B]
  have av:=Hd (V.out B)
  clear V g B
  go_wp2_with fail
  go_roundw
  ·exact ⟨q+1,by omega,by go_num,by first|rfl|trivial,av.out⟩
  simp [intOf];omega
 have aU:q=pn:=by omega
 have a3:=dF (by omega:pn<=q)
 have HR:Hid (iM l es node=0):=by
  show _=_
  rw [ah.out,aR.out]
  show (match ku (fD l es) node with|some k=>1+(k:Int)|none=>0)=_
  rw [lQ (fun j hj=>Q.out j (by rw [aU,←ao.out.1];exact hj))]
 clear Q aU
 go_wp2_with fail
 go_ret
 exact ⟨aL HR.out.symm,aV.out⟩
def wW (x:Lay) (i:Nat):Rou:=x.routes[i]?.getD Rou.zero
theorem Fu.of {d:Dev} {src:Int} {g:List Int} {r:Rou} (h:dB d src g r):Fu r r.nodes.length:=fun i h0 hi=>(h.step i h0 hi).1
theorem rO {d:Dev} {src:Int} {g:List Int} {r:Rou} (h:dB d src g r) {m:Nat} (h0:0<m) (j:m<r.nodes.length):bQ d (r.nodes[m]?.getD 0)=true/\¬(r.nodes[m]?.getD 0 % aV d=5∨r.nodes[m]?.getD 0 % aV d=6):=by
 have h1:=(h.step m h0 j).2
 unfold fe at h1
 split at h1
 ·rename_i h2;exact h2
 simp at h1
def rP (xs:List Int) (s:Int):Int:=match ku xs s with
 | some k=>(k:Int)+1
 | none=>0
theorem Bh (d:Dev) (n s:Int) (k:Nat) (hk:k<(fe d n).length) (h:(fe d n)[k]?.getD 0=s) (g:∀j,j<k→(fe d n)[j]?.getD 0≠s):rP (fe d n) s=(k:Int)+1:=by unfold rP;rw [lN hk h g]
theorem wX (d:Dev) (n s:Int) (g:∀j,j<(fe d n).length→(fe d n)[j]?.getD 0≠s):rP (fe d n) s=0:=by unfold rP;rw [lQ g]
theorem vw (d:Dev) (n s:Int) (w:World) :
  Calls Tryz.prog 73 #[.agg (dv d),.int .i64 n,.int .i64 s] w fun e w'=>e = .returned (.int .i64 (rP (fe d n) s))/\Below w.heap.size w w':=by
 have ag:=Hd (aB (Below.refl w.heap.size w) (.cells (dv d) 36))
 have K:=Hd (aI w (.cells (dv d) 36))
 have Y:=lm d n
 have U:=Hd (Bh d n s)
 have Z:=Hd (wX d n s)
 obtain ⟨R,Q⟩:∃R,rP (fe d n) s=R:=⟨_,rfl⟩
 rw [Q]
 have G:=Hd Q
 clear Q
 go_enter Tryz.func73,Tryz.ntmps73
 go_upto_region 1 with fail
 obtain ⟨gX,u⟩:∃g,w.heap.size=g:=⟨_,rfl⟩
 rw [u] at K
 (try rw [u])
 clear u
 generalize w.alloc (.cells (dv d) 36)=W9 at *
 obtain ⟨x0,x1,x2,x3,lx⟩:=cO K.out
 go_wp2_with fail
 refine (sN d n _).mono ?_
 rintro _ w1 ⟨A,m,c,rfl,W,b1⟩
 have HL:Hid ((fe d n).length=m):=W.len
 have HI:=Hd W.ints
 have H:=Hd (aA ag.out b1)
 rw [HL.out] at Y
 generalize fe d n=xs at *
 clear x0 x1 x2 x3 lx W b1
 go_wp2_with fail
 go_loopw [13] (fun i wr=>∃k:Nat,k<=m/\i = .int .i64 (k:Int)/\w1=wr/\∀j,j<k→xs[j]?.getD 0≠s) (fun i _=>m - (intOf i).toNat)
 ·exact ⟨0,by omega,rfl,rfl,fun j hj=>by omega⟩
 obtain ⟨k,hk,rfl,rfl,q⟩:=hrel
 have HA:=Hd q
 clear q
 by_cases J:k<m
 ·have dk:=dT (by omega:k<m)
  have I:k<xs.length:=by rw [HL.out];exact J
  obtain ⟨b,o,hA,hb,hc⟩:=HI.out.2 (by omega)
  have ck:=hc k J
  have ad:=Hd hA
  clear hc hA
  obtain rfl:=ad.out
  have HG:Hid (xs[k]?.getD 0≠s→∀j,j<k+1→xs[j]?.getD 0≠s):=fun h=>bW HA.out h
  have HF:Hid (xs[k]?.getD 0=s→rP xs s=(k:Int)+1):=fun h=>U.out k I h HA.out
  generalize xs[k]?.getD 0=z at *
  obtain ⟨i0,i1⟩:=ib (by omega:k<m)
  clear I
  by_cases B:z=s
  ·have dz:(z==s)=true:=by simp [B]
   have V:=Hd (HF.out B)
   clear B HF HG
   go_wp2_with fail
   go_ret
   exact ⟨aL (by have h1:=V.out;have h2:=G.out;omega),H.out⟩
  have dz:(z==s)=false:=by simp [B]
  have aj:=Hd (HG.out B)
  clear B HF HG
  go_wp2_with fail
  go_roundw
  ·exact ⟨k+1,by omega,by go_num,by first|rfl|trivial,aj.out⟩
  simp [intOf];omega
 have D:k=m:=by omega
 have dk:=dF (by omega:m<=k)
 have V:Hid (rP xs s=0):=Z.out fun j hj=>HA.out j (by rw [D,←HL.out];exact hj)
 clear D
 go_wp2_with fail
 go_ret
 exact ⟨aL (by rw [←G.out,V.out]),H.out⟩
theorem uk (d:Dev) (n s:Int) (w:World) :
  Calls Tryz.prog 69 #[.agg (dv d),.int .i64 n,.int .i64 s] w fun e w'=>e = .returned (.int .i64 (rP (fe d n) s))/\Below w.heap.size w w':=by
 have ag:=Hd (aB (Below.refl w.heap.size w) (.cells (dv d) 36))
 have K:=Hd (aI w (.cells (dv d) 36))
 have Y:=lm d n
 have U:=Hd (Bh d n s)
 have Z:=Hd (wX d n s)
 obtain ⟨R,Q⟩:∃R,rP (fe d n) s=R:=⟨_,rfl⟩
 rw [Q]
 have G:=Hd Q
 clear Q
 go_enter Tryz.func69,Tryz.ntmps69
 go_upto_region 1 with fail
 obtain ⟨gX,u⟩:∃g,w.heap.size=g:=⟨_,rfl⟩
 rw [u] at K
 (try rw [u])
 clear u
 generalize w.alloc (.cells (dv d) 36)=W9 at *
 obtain ⟨x0,x1,x2,x3,lx⟩:=cO K.out
 go_wp2_with fail
 refine (r9 d n _).mono ?_
 rintro _ w1 ⟨A,m,c,rfl,W,b1⟩
 have HL:Hid ((fe d n).length=m):=W.len
 have HI:=Hd W.ints
 have H:=Hd (aA ag.out b1)
 rw [HL.out] at Y
 generalize fe d n=xs at *
 clear x0 x1 x2 x3 lx W b1
 go_wp2_with fail
 go_loopw [8] (fun i wr=>∃k:Nat,k<=m/\i = .int .i64 (k:Int)/\w1=wr/\∀j,j<k→xs[j]?.getD 0≠s) (fun i _=>m - (intOf i).toNat)
 ·exact ⟨0,by omega,rfl,rfl,fun j hj=>by omega⟩
 obtain ⟨k,hk,rfl,rfl,q⟩:=hrel
 have HA:=Hd q
 clear q
 by_cases J:k<m
 ·have dk:=dT (by omega:k<m)
  have I:k<xs.length:=by rw [HL.out];exact J
  obtain ⟨b,o,hA,hb,hc⟩:=HI.out.2 (by omega)
  have ck:=hc k J
  have ad:=Hd hA
  clear hc hA
  obtain rfl:=ad.out
  have HG:Hid (xs[k]?.getD 0≠s→∀j,j<k+1→xs[j]?.getD 0≠s):=fun h=>bW HA.out h
  have HF:Hid (xs[k]?.getD 0=s→rP xs s=(k:Int)+1):=fun h=>U.out k I h HA.out
  generalize xs[k]?.getD 0=z at *
  obtain ⟨i0,i1⟩:=ib (by omega:k<m)
  clear I
  by_cases B:z=s
  ·have dz:(z==s)=true:=by simp [B]
   have V:=Hd (HF.out B)
   clear B HF HG
   go_wp2_with fail
   go_ret
   exact ⟨aL (by have h1:=V.out;have h2:=G.out;omega),H.out⟩
  have dz:(z==s)=false:=by simp [B]
  have aj:=Hd (HG.out B)
  clear B HF HG
  go_wp2_with fail
  go_roundw
  ·exact ⟨k+1,by omega,by go_num,by first|rfl|trivial,aj.out⟩
  simp [intOf];omega
 have D:k=m:=by omega
 have dk:=dF (by omega:m<=k)
 have V:Hid (rP xs s=0):=Z.out fun j hj=>HA.out j (by rw [D,←HL.out];exact hj)
 clear D
 go_wp2_with fail
 go_ret
 exact ⟨aL (by rw [←G.out,V.out]),H.out⟩
def oH (x:Lay) (k:Nat):Blk:=x.blocks[k]?.getD Blk.zero
def lJ (f:Int→Int) (xs:List Int) (j:Nat):List Int:=(xs.take j).map f++List.replicate (4 - j) 0
theorem Cf (f:Int→Int) {xs:List Int} {j:Nat} (h:xs.length<=4) (hj:j<=xs.length):(lJ f xs j).length=4:=by
 unfold lJ
 rw [List.length_append,List.length_map,List.length_take,List.length_replicate]
 omega
theorem wY (f:Int→Int) {xs:List Int} {j:Nat} (h:xs.length<=4) (hj:j<xs.length):(lJ f xs j).set j (f (xs[j]?.getD 0))=lJ f xs (j+1):=by
 unfold lJ
 have hl:((xs.take j).map f).length=j:=by rw [List.length_map,List.length_take];omega
 rw [List.set_append,if_neg (by omega),hl,Nat.sub_self,show 4 - j=(4 - (j+1))+1 by omega,List.replicate_succ,List.set_cons_zero,List.take_add_one,List.getElem?_eq_getElem hj,List.map_append,List.append_assoc]
 rfl
def zLe:Le:=⟨[0,0,0,0],0,0,0⟩
def leF (l : ag) (es : List LeT) (e : LeT) : Le :=
  ⟨if 0 <= e.lut then lJ (iM l es) (l.luts[e.lut.toNat]?.getD Lt.zero).ins (l.luts[e.lut.toNat]?.getD Lt.zero).ins.length else [iM l es ((l.seqs[e.ff.toNat]?.getD Sq.zero).ins[0]?.getD 0), 0, 0, 0],
   if 0 <= e.lut then (l.luts[e.lut.toNat]?.getD Lt.zero).mask else 2, if 0 <= e.ff then 1 else 0, if 0 <= e.ff then (l.seqs[e.ff.toNat]?.getD Sq.zero).init else 0⟩
def mE (l:ag) (es:List LeT) (j:Nat):List Le:=(es.take j).map (leF l es)++List.replicate (2 - j) zLe
theorem yx (l:ag) {es:List LeT} {j:Nat} (h:es.length<=2) (hj:j<es.length):(mE l es j).set j (leF l es (es[j]?.getD LeT.zero))=mE l es (j+1):=by
 unfold mE
 have hl:((es.take j).map (leF l es)).length=j:=by rw [List.length_map,List.length_take];omega
 rw [List.set_append,if_neg (by omega),hl,Nat.sub_self,show 2 - j=(2 - (j+1))+1 by omega,List.replicate_succ,List.set_cons_zero,List.take_add_one,List.getElem?_eq_getElem hj,List.map_append,List.append_assoc]
 rfl
theorem ul (l:ag) {es:List LeT} {j:Nat} (h:es.length<=2) (hj:j<=es.length):(mE l es j).length=2:=by
 unfold mE
 rw [List.length_append,List.length_map,List.length_take,List.length_replicate]
 omega
theorem wZ (l:ag) (es:List LeT):mE l es 0=[zLe,zLe]:=rfl
def emT (d:Dev):bC:=⟨List.replicate (ny d) 0,[zLe,zLe],0,0⟩
def tAt (ts:List bC) (t:Nat):bC:=ts[t]?.getD bC.zero
def setMux (ts:List bC) (t k:Nat) (y:Int):List bC:=ts.set t { tAt ts t with mux:=(tAt ts t).mux.set k y }
def setLes (ts:List bC) (t:Nat) (g:List Le):List bC:=ts.set t { tAt ts t with les:=g }
def setPad (ts:List bC) (t:Nat) (y:Int):List bC:=ts.set t { tAt ts t with pad:=y }
def setRam (ts:List bC) (t:Nat) (y:Int):List bC:=ts.set t { tAt ts t with ram:=y }
def Ab (d:Dev) (n:Int):Int:=if 7<=n % aV d then n % aV d - 2 else n % aV d
def Ci (d:Dev) (r:Rou) (q:Nat) (ts:List bC):List bC :=
 setMux ts ((r.nodes[q]?.getD 0) / aV d).toNat (Ab d (r.nodes[q]?.getD 0)).toNat (rP (fe d (r.nodes[q]?.getD 0)) (r.nodes[(r.from_[q]?.getD 0).toNat]?.getD 0))
def kC (d:Dev) (r:Rou) (ts:List bC):Nat→List bC
 | 0=>ts
 | q+1=>if q=0 then ts else Ci d r q (kC d r ts q)
def jI (d:Dev) (x:Lay):Nat→List bC
 | 0=>List.replicate (d.W * d.H).toNat (emT d)
 | i+1=>kC d (wW x i) (jI d x i) (wW x i).nodes.length
def sG (x:Lay) (k:Nat):Nat:=(x.place[k]?.getD 0).toNat
def yz (x:Lay) (k:Nat) (ts:List bC):List bC :=
 if (oH x k).kind=0 then setPad ts (sG x k) 1 else if (oH x k).kind=1 then setPad ts (sG x k) 2
 else if (oH x k).kind=2 then setRam ts (sG x k) (x.net.seqs[(oH x k).item.toNat]?.getD Sq.zero).init else setLes ts (sG x k) (mE x.net (oH x k).les (oH x k).les.length)
def fH (d:Dev) (x:Lay):Nat→List bC
 | 0=>jI d x x.routes.length
 | k+1=>yz x k (fH d x k)
def ql (d:Dev) (x:Lay):List bC:=fH d x x.blocks.length
noncomputable def cfgD (d:Dev) (x:Lay):List bC:=@ite (List bC) (jB d x) (Classical.propDecidable _) (ql d x) []
structure iG (d:Dev) (ts:List bC):Prop where
 len:ts.length=(d.W * d.H).toNat
 mux:∀t:Nat,t<ts.length→(tAt ts t).mux.length=ny d
 les:∀t:Nat,t<ts.length→(tAt ts t).les.length=2
 sel:∀t:Nat,t<ts.length→∀e∈(tAt ts t).les,e.sel.length=4
theorem sH {ts:List bC} {t u:Nat} {y:bC} (g:u<ts.length):tAt (ts.set t y) u=if t=u then y else tAt ts u:=by
 unfold tAt
 rw [List.getElem?_set]
 split
 ·rename_i h
  subst h
  rw [if_pos g]
  rfl
 rfl
theorem iG.put {d:Dev} {ts:List bC} (h:iG d ts) (t:Nat) {y:bC} (h1:y.mux.length=ny d) (h2:y.les.length=2) (h3:∀e∈y.les,e.sel.length=4):iG d (ts.set t y):=by
 refine ⟨by rw [List.length_set];exact h.len,fun u g=>?_,fun u g=>?_,fun u g=>?_⟩ <;> rw [List.length_set] at g <;> rw [sH g] <;> split
 ·exact h1
 ·exact h.mux u g
 ·exact h2
 ·exact h.les u g
 ·exact h3
 exact h.sel u g
theorem iG.start (d:Dev):iG d (List.replicate (d.W * d.H).toNat (emT d)):=by
 have g:∀t:Nat,t<(List.replicate (d.W * d.H).toNat (emT d)).length→tAt (List.replicate (d.W * d.H).toNat (emT d)) t=emT d:=fun t ht=>by
  unfold tAt
  rw [List.getElem?_eq_getElem ht,List.getElem_replicate]
  rfl
 refine ⟨by simp,fun t ht=>?_,fun t ht=>?_,fun t ht=>?_⟩ <;> rw [g t ht]
 ·simp [emT]
 ·rfl
 intro e he
 simp [emT,zLe] at he
 rw [he]
 rfl
theorem iG.setMux {d:Dev} {ts:List bC} (h:iG d ts) {t:Nat} (ht:t<ts.length) (k:Nat) (y:Int):iG d (setMux ts t k y):=h.put t (by simp;exact h.mux t ht) (h.les t ht) (h.sel t ht)
theorem iG.setPad {d:Dev} {ts:List bC} (h:iG d ts) {t:Nat} (ht:t<ts.length) (y:Int):iG d (setPad ts t y):=h.put t (h.mux t ht) (h.les t ht) (h.sel t ht)
theorem iG.setRam {d:Dev} {ts:List bC} (h:iG d ts) {t:Nat} (ht:t<ts.length) (y:Int):iG d (setRam ts t y):=h.put t (h.mux t ht) (h.les t ht) (h.sel t ht)
theorem iG.setLes {d:Dev} {ts:List bC} (h:iG d ts) {t:Nat} (ht:t<ts.length) {g:List Le} (h2:g.length=2) (h3:∀e∈g,e.sel.length=4):iG d (setLes ts t g):=h.put t (h.mux t ht) h2 h3
theorem Ep {l:ag} (hf:az l) {es:List LeT} {e:LeT} (h:dG l e):(leF l es e).sel.length=4:=by
 unfold leF
 by_cases h0:0<=e.lut
 ·simp only [if_pos h0]
  have h1:=(hf.luts e.lut.toNat (by have:=h.lut;omega)).1
  exact Cf _ h1 (Nat.le_refl _)
 simp only [if_neg h0]
 rfl
theorem D7 {l:ag} (hf:az l) {es:List LeT} (h:∀e∈es,dG l e) (j:Nat):∀e∈mE l es j,e.sel.length=4:=by
 intro e he
 unfold mE at he
 rcases List.mem_append.1 he with he|he
 ·obtain ⟨y,g,rfl⟩:=List.mem_map.1 he
  exact Ep hf (h y (List.mem_of_mem_take g))
 rw [List.mem_replicate] at he
 rw [he.2]
 rfl
theorem um {d:Dev} {n:Int} (h:bQ d n=true):0<=n / aV d/\n / aV d<d.W * d.H/\0<=Ab d n/\Ab d n<(ny d:Int):=by
 unfold bQ fP at h
 simp only [Bool.and_eq_true,decide_eq_true_eq] at h
 obtain ⟨⟨j,h0,h1⟩,_⟩:=h
 have D:=oC j
 have z:=ay j
 have B:aV d=7+4 * d.T:=rfl
 have hn:gH d=d.W * d.H * aV d:=by unfold gH;rfl
 have g:0<aV d:=by omega
 have q:=Int.emod_nonneg n (by omega:aV d≠0)
 have u:=Int.emod_lt_of_pos n g
 refine ⟨Int.ediv_nonneg h0 (by omega),?_,?_,?_⟩
 ·rw [hn] at h1
  exact Int.ediv_lt_of_lt_mul g h1
 ·unfold Ab;split <;> omega
 unfold Ab;split <;> omega
structure Es (d:Dev) (r:Rou):Prop where
 nod:∀q:Nat,0<q→q<r.nodes.length→bQ d (r.nodes[q]?.getD 0)=true/\¬(r.nodes[q]?.getD 0 % aV d=5∨r.nodes[q]?.getD 0 % aV d=6)
theorem sI {d:Dev} {r:Rou} {ts:List bC} (z:dR d=true) (hr:Es d r) (h:iG d ts):∀q:Nat,q<=r.nodes.length→iG d (kC d r ts q)/\∀t:Nat,t<ts.length→(tAt (kC d r ts q) t).les=(tAt ts t).les
 | 0,_=>⟨h,fun _ _=>rfl⟩
 | q+1,hq=>by
  rw [kC]
  split
  ·exact ⟨h,fun _ _=>rfl⟩
  obtain ⟨j,u⟩:=sI z hr h q (by omega)
  have hn:=hr.nod q (by omega) (by omega)
  obtain ⟨a,b,_,_⟩:=um hn.1
  have ht:((r.nodes[q]?.getD 0) / aV d).toNat<(kC d r ts q).length:=by rw [j.len];omega
  refine ⟨j.setMux ht _ _,fun t g=>?_⟩
  unfold Ci Go.Proofs.YtofihjoanjkdmaaGreat.setMux
  rw [sH (by rw [j.len,←h.len];exact g)]
  split
  ·rename_i e
   subst e
   exact u _ g
  exact u t g
theorem qd {d:Dev} {x:Lay} (h:fA d x.place x.conns x.routes) (j:dR d=true):∀i:Nat,i<=x.routes.length→iG d (jI d x i)/\∀t:Nat,t<(d.W * d.H).toNat→(tAt (jI d x i) t).les=[zLe,zLe]
 | 0,_=>⟨iG.start d,fun t ht=>by
   unfold jI tAt
   rw [List.getElem?_eq_getElem (by simpa using ht),List.getElem_replicate]
   rfl⟩
 | i+1,hi=>by
  obtain ⟨g,z⟩:=qd h j i (by omega)
  have hs:Es d (wW x i):=⟨fun q h0 hq=>rO (h.fit i (by rw [←h.len];omega)).2 h0 hq⟩
  obtain ⟨u,B⟩:=sI j hs g (wW x i).nodes.length (Nat.le_refl _)
  exact ⟨u,fun t ht=>(B t (by rw [g.len];exact ht)).trans (z t ht)⟩
theorem Ac {x:Lay} {k t:Nat} {ts:List bC} (ht:t<ts.length) (h:sG x k≠t):tAt (yz x k ts) t=tAt ts t:=by
 unfold yz setPad setRam setLes
 repeat' split
 all_goals rw [sH ht,if_neg h]
theorem pq {d:Dev} {x:Lay} (h:eG d (x.blocks.map Blk.kind) x.place) {k:Nat} (hk:k<x.blocks.length):0<=x.place[k]?.getD 0/\x.place[k]?.getD 0<d.W * d.H/\sG x k<(d.W * d.H).toNat:=by
 have h1:=(aU.1 (h.tile k (by rw [List.length_map];exact hk)).1).2
 unfold sG
 omega
theorem Cj {d:Dev} {x:Lay} (h:eG d (x.blocks.map Blk.kind) x.place) {j k:Nat} (g:j<k) (hk:k<x.blocks.length):sG x j≠sG x k:=by
 intro e
 have hl:x.place.length=x.blocks.length:=by rw [h.same,List.length_map]
 have a:=pq h (by omega:j<x.blocks.length)
 have b:=pq h hk
 unfold sG at e a b
 have e2:x.place[j]?.getD 0=x.place[k]?.getD 0:=by omega
 rw [List.getElem?_eq_getElem (by omega),List.getElem?_eq_getElem (by omega)] at e2
 have e3:x.place[j]=x.place[k]:=by simpa using e2
 have:=(List.getElem_inj h.once).1 e3
 omega
theorem qf {d:Dev} {x:Lay} (h:jB d x):∀k:Nat,k<=x.blocks.length→iG d (fH d x k)/\∀j:Nat,k<=j→j<x.blocks.length→(tAt (fH d x k) (sG x j)).les=[zLe,zLe]
 | 0,_=>by
  obtain ⟨g,u⟩:=qd h.routes h.place.dev x.routes.length (Nat.le_refl _)
  exact ⟨g,fun j _ hj=>u _ (pq h.place hj).2.2⟩
 | k+1,hk=>by
  obtain ⟨g,u⟩:=qf h k (by omega)
  have z:=pq h.place (by omega:k<x.blocks.length)
  have ht:sG x k<(fH d x k).length:=by rw [g.len];exact z.2.2
  refine ⟨?_,fun j h1 h2=>?_⟩
  ·rw [fH,yz]
   have q:dM x.net (oH x k):=by unfold oH;rw [List.getElem?_eq_getElem (by omega)];exact h.pack.fit _ (List.getElem_mem _)
   split
   ·exact g.setPad ht _
   split
   ·exact g.setPad ht _
   split
   ·exact g.setRam ht _
   exact g.setLes ht (ul _ (lT q) (Nat.le_refl _)) (D7 h.pack.net (nU q) _)
  have hj:=pq h.place h2
  rw [fH,Ac (by rw [g.len];exact hj.2.2) (Cj h.place (by omega) h2)]
  exact u j (by omega) h2
end Go.Proofs.YtofihjoanjkdmaaGreat
