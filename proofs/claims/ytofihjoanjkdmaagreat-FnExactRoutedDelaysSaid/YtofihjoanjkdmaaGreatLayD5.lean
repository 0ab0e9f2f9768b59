/- Maps from pins to numbers. -/
import Derived.DeepKeys4
import Derived.Maps.OwnSet
import Derived.Test.YtofihjoanjkdmaaGreatHeldT
import Derived.Test.YtofihjoanjkdmaaGreatLayDD
import Derived.Test.YtofihjoanjkdmaaGreatLayDM
import Derived.Test.YtofihjoanjkdmaaGreatLayG7
namespace Go.Proofs.YtofihjoanjkdmaaGreat
set_option maxHeartbeats 16000000
set_option maxRecDepth 100000
open Go.RowKit
def vW (s:ah):Prop:=j4 s.block/\j4 s.pin
abbrev BH (s:ah):Value := .agg #[.int .i64 s.block,.int .i64 s.pin]
theorem EM:(match Tryz.prog.underlying 100 with|some (.array _ _)|some (.struct _)=>true|_=>false)=true:=by kernel_rfl
theorem xE:Tryz.prog.cellsOf 100=2:=by kernel_rfl
theorem EN:Tryz.prog.keyType 100=true:=by kernel_rfl
theorem yI:Maps.Keyed Tryz.prog 100 := .of_law (deep_law_laid (by kernel_rfl) (m:=2) (by omega) (of_decide_eq_true (by kernel_rfl)) (by kernel_rfl) EM)
theorem Bt {s:ah} (h:vW s):∃l,keyOf Tryz.prog 100 (BH s)=some l:=by
 obtain ⟨n,hn⟩:∃n,Tryz.prog.types.size=n+1:=⟨Tryz.prog.types.size - 1,by kernel_rfl⟩
 have h1:=Ey h.1
 have h2:=Ey h.2
 have c3:Tryz.prog.cellsOf 3=1:=by kernel_rfl
 refine ⟨.string (keyBytes [.int .i64 s.block,.int .i64 s.pin]),?_⟩
 unfold keyOf
 rw [Tryz.underlying100]
 simp only [EN,Value.formed,Tryz.underlying100,xE,Value.cells,hn]
 simp [Program.keyLits,Tryz.underlying100,Tryz.underlying3,xE,c3,h1,h2]
def qB (w:World) (b n:Nat) (f:ah→Int):Prop:=∃D:DataW Unit,w.ownsMap Tryz.prog 100 (plainElem Tryz.prog 3) b n D/\∀s l,keyOf Tryz.prog 100 (BH s)=some l→D.atKey l (.lit (.int .i64 0)) = .lit (.int .i64 (f s))
theorem qB.made (w:World):qB (w.alloc (.map #[] 0)) w.heap.size 0 (fun _=>0):=⟨.map [],World.ownsMap_made w _ _ _,fun _ _ _=>rfl⟩
theorem qB.lt {w:World} {b n:Nat} {f:ah→Int} (h:qB w b n f):b<w.heap.size:=by
 obtain ⟨D,h1,_⟩:=h
 exact h1.lt
theorem qB.more {w:World} {b n m:Nat} {f:ah→Int} (h:qB w b n f) (g:n<=m):qB w b m f:=by
 obtain ⟨D,h1,h2⟩:=h
 exact ⟨D,h1.mono g,h2⟩
theorem qB.keep {w w':World} {b n:Nat} {f:ah→Int} (h:qB w b n f) (hk:w'.heap[b]?=w.heap[b]?):qB w' b n f:=by
 obtain ⟨D,⟨es,j,g,hr⟩,h2⟩:=h
 exact ⟨D,⟨es,j,hk.trans g,hr⟩,h2⟩
theorem qB.below {w w':World} {b n:Nat} {f:ah→Int} (h:qB w b n f) (g:Below w.heap.size w w'):qB w' b n f:=h.keep (g.block b h.lt)
theorem qB.look {w:World} {b n:Nat} {f:ah→Int} (h:qB w b n f) {s:ah} (hs:vW s):(Instr.lookup 97 (.map (some b)) (BH s) false).run Tryz.prog w = .ok (.int .i64 (f s)) w:=by
 obtain ⟨D,h1,h2⟩:=h
 obtain ⟨l,hl⟩:=Bt hs
 obtain ⟨c,hr,hc,_⟩:=h1.lookup_int yI Tryz.underlying97 Tryz.underlying3 (FZ w) hl
 rw [h2 s l hl] at hc
 injection hc with hc
 injection hc with _ hc
 rw [hr,hc]
abbrev qf (b n:Nat) (f:ah→Int):Pc := .own b fun w=>qB w b n f
noncomputable def putF (f:ah→Int) (s:ah) (y:Int):ah→Int:=fun t=>@ite Int (t=s) (Classical.propDecidable _) y (f t)
theorem aJ.pushPm {W w:World} {g:List Pc} (h:aJ W w g):aJ W (w.alloc (.map #[] 0)) (g++[qf w.heap.size 0 (fun _=>0)]) :=
 h.push (aD (Below.refl _ _) _) (G:=[w.heap.size]) ⟨rfl,by simp,qB.made w,fun _ _ e h=>h.keep e⟩ (by simp) (by simp)
theorem aJ.pmPut {W w:World} {j:List Pc} (S:aJ W w j) (i:Nat) {b n:Nat} {f:ah→Int} (hi:j[i]?=some (qf b n f)) (hn:n<=2199023255552) {s:ah} (hs:vW s) {y:Int} (H:j4 y) :
  ∃w',(Instr.mapUpdate 97 (.map (some b)) (BH s) (.int .i64 y)).run Tryz.prog w = .ok () w'/\aJ W w' (j.set i (qf b (n+1) (putF f s y)))/\w.heap.size<=w'.heap.size:=by
 obtain ⟨⟨D,h1,h2⟩,_,_⟩:=S.own i hi
 obtain ⟨l,hl⟩:=Bt hs
 obtain ⟨w',B,z,u⟩:=h1.store yI Tryz.underlying97 (by unfold maxLen;omega) hl (plainElem_int Tryz.underlying3 (Ey H))
 refine ⟨w',B,S.own_upd i hi u.grown ⟨_,z,fun t q g=>?_⟩ (fun I J e h=>h.keep e),u.grown.size⟩
 have G:=World.ownsMap.isMap h1
 unfold putF
 by_cases e:q=l
 ·subst e
  have ht:t=s:=by
   have h3:=yI.inj g hl
   injection h3 with h3
   obtain ⟨a,b⟩:=t
   obtain ⟨c,e⟩:=s
   simp at h3
   rw [h3.1,h3.2]
  rw [if_pos ht]
  exact Maps.atKey_put_same G (yI.key hl) _ _
 have ht:t≠s:=fun h3=>e (by rw [h3,hl] at g;injection g with h4;exact h4.symm)
 rw [if_neg ht,Maps.atKey_put_other e]
 exact h2 t q g
theorem yJ {ops:Array Oper} {rest:List Oper} {o:Oper} {a:Act} {Q:Exit→Act→World→Prop} {w W:World} (hg:o.guard=none) (z x v:Operand) (u:o.op=Op.mapUpdate 97 z x v)
  (j:List Pc) (S:aJ W w j) (i b n:Nat) (f:ah→Int) (hi:j[i]?=some (qf b n f)) (I:a.eval z = .map (some b)) (hn:n<=2199023255552) (s:ah) (y:Int) (B:a.eval x=BH s) (G:a.eval v = .int .i64 y) (hs:vW s) (J:j4 y)
  (h:∀w',aJ W w' (j.set i (qf b (n+1) (putF f s y)))→w.heap.size<=w'.heap.size→wpList Tryz.prog ops Q rest (a.put o.dst undef) w'):wpList Tryz.prog ops Q (o :: rest) a w:=by
 refine wpList_plain hg fun K q=>?_
 obtain ⟨w',g,H,D⟩:=S.pmPut i hi hn hs J
 unfold Oper.wp
 simp [execOp,u,I,B,G,g,Result.andThen]
 exact q _ _ (h w' H D)
theorem Ez {w:World} {b o n:Nat} {xs:List Int} (h:dE w (some ⟨b,o,none⟩) n xs) {j:Nat} (hj:j<n):w.cell? ⟨b,o+j,none⟩=some (.int .i64 (xs[j]?.getD 0))/\b<w.heap.size:=by
 obtain ⟨q,u,hA,g,hc⟩:=h.2 (by omega)
 injection hA with hA
 injection hA with e1 e2
 subst e1 e2
 exact ⟨hc j hj,g⟩
def kU (x:Lay) (k:Nat):List ah:=(x.conns.take k).flatMap Cn.sinks
theorem DN {x:Lay} {k:Nat} (h:k<x.conns.length):kU x (k+1)=kU x k++(wW x k).sinks:=by
 unfold kU wW
 rw [List.take_add_one,List.getElem?_eq_getElem h,List.flatMap_append]
 simp only [Option.toList,List.flatMap_cons,List.flatMap_nil,List.append_nil]
 rfl
noncomputable def pmF (d:Dev) (x:Lay) (L:List ah):ah→Int:=fun t=>@ite Int (t∈L) (Classical.propDecidable _) (sinkD d x t) 0
theorem FB (d:Dev) (x:Lay) (L:List ah) (s:ah):putF (pmF d x L) s (sinkD d x s)=pmF d x (L++[s]):=by
 funext t
 unfold putF pmF
 by_cases h:t=s
 ·subst h
  rw [if_pos rfl,if_pos (by simp)]
 rw [if_neg h]
 by_cases h2:t∈L
 ·rw [if_pos h2,if_pos (by simp [h2])]
 rw [if_neg h2,if_neg (by simp [h2,h])]
theorem FC (d:Dev) (x:Lay):pmF d x (x.conns.flatMap Cn.sinks)=sinkD d x:=by
 funext t
 unfold pmF
 by_cases h:t∈x.conns.flatMap Cn.sinks
 ·rw [if_pos h]
 rw [if_neg h]
 refine (rD fun i hi=>h ?_).symm
 have h2:=hi.2
 unfold wW at h2
 rw [List.getElem?_eq_getElem hi.1] at h2
 exact List.mem_flatMap.2 ⟨_,List.getElem_mem hi.1,h2⟩
theorem aJ.pmMore {W w:World} {b n m:Nat} {f:ah→Int} (h:aJ W w [qf b n f]) (j:n<=m):aJ W w [qf b m f] :=
 h.same 0 rfl fun _ g=>⟨g.1,g.2.1,g.2.2.1.more j,fun _ _ e h=>h.keep e⟩
theorem yK {d:Dev} {place:List Int} {s:ah} (g:place.length<=64) (h:0<=bO d place s):vW s:=by
 unfold bO at h
 split at h
 ·rename_i h1
  unfold nT at h
  split at h
  ·rename_i h2
   have h3:jA (bH d (place[s.block.toNat]?.getD 0))<=5:=by unfold jA;repeat (first|omega|split)
   exact ⟨⟨by omega,by omega⟩,⟨by omega,by omega⟩⟩
  omega
 omega
theorem wI (d:Dev) (x:Lay) (SA LA OA BA CA PA RA:Option Addr) (sn sc ln lc on oc bn bc cn cc pn pc rn rc:Nat) (w:World) (h:j5 w x SA LA OA BA CA PA RA sn sc ln lc on oc bn bc cn cc pn pc rn rc) (hf:d9 d x.place x.conns x.routes) (hl:xG x 1048576) :
  Calls Tryz.prog 57 #[.agg (dv d),sZ x SA LA OA BA CA PA RA sn sc ln lc on oc bn bc cn cc pn pc rn rc] w fun e w'=>∃b n,e = .returned (.map (some b))/\qB w' b n (sinkD d x)/\Below w.heap.size w w':=by
 obtain ⟨_,aE,aV,a4⟩:=h.lens
 have dN:pn<=1048576:=by rw [←aV];exact hl.place
 have bj:cn<=100:=by rw [←aE];exact hf.conns.len
 have dP:Hid (x.place.length<=64):=by have h:=hf.conns.blocks.2;show _<=_;omega
 have dr:Hid (rn=cn):=by show _=_;rw [←a4,←aE];exact hf.len
 obtain ⟨cD,eC,H1,au,du⟩:=hd5 aE a4 h hf hl
 clear h hf hl aE a4 aV
 have ag:=Hd (aD (aD (Below.refl w.heap.size w) (.cells (dv d) 36)) (.cells #[.int .i64 x.net.inputs,.slice SA sn sc,.slice LA ln lc,.slice OA on oc,.slice BA bn bc,.slice CA cn cc,.slice PA pn pc,.slice RA rn rc] 46))
 have hx:=bS (.cells #[.int .i64 x.net.inputs,.slice SA sn sc,.slice LA ln lc,.slice OA on oc,.slice BA bn bc,.slice CA cn cc,.slice PA pn pc,.slice RA rn rc] 46) (aI w (.cells (dv d) 36))
 have hy:=aI (w.alloc (.cells (dv d) 36)) (.cells #[.int .i64 x.net.inputs,.slice SA sn sc,.slice LA ln lc,.slice OA on oc,.slice BA bn bc,.slice CA cn cc,.slice PA pn pc,.slice RA rn rc] 46)
 simp only [World.size_alloc] at hy
 obtain ⟨cv,ak⟩:=hd2 hx hy
 clear hx hy
 have dX:∀(t:TypeId) (w:World),(Instr.makeMap t none).run Tryz.prog w = .ok (.map (some w.heap.size)) (w.alloc (.map #[] 0)):=fun t w=>run_makeMap t w
 go_enter Tryz.func57,Tryz.ntmps57
 go_upto_region 1 with fail
 generalize (w.alloc (.cells (dv d) 36)).alloc (.cells #[.int .i64 x.net.inputs,.slice SA sn sc,.slice LA ln lc,.slice OA on oc,.slice BA bn bc,.slice CA cn cc,.slice PA pn pc,.slice RA rn rc] 46)=V at *
 have ax:Hid (aJ V (V.alloc (.map #[] 0)) [qf V.heap.size 0 (pmF d x (kU x 0))]):=by
  have h1:=(aJ.nil (Below.refl V.heap.size V)).pushPm
  rw [show (fun _=>0:ah→Int)=pmF d x (kU x 0) by funext t;unfold pmF kU;simp] at h1
  exact h1
 obtain ⟨gm,bt⟩:∃g,V.heap.size=g:=⟨_,rfl⟩
 go_upto_region 2 with fail
 rw [bt] at ax
 (try rw [bt])
 clear bt dX
 generalize V.alloc (.map #[] 0)=W0 at *
 obtain ⟨-,-,-,-,-,y5,ly⟩:=FR (aC ax.out.bel ak.out)
 go_wp2_with fail
 clear y5 ly
 go_loopw [20] (fun i wr=>∃k:Nat,k<=cn/\i = .int .i64 (k:Int)/\aJ V wr [qf gm (k * 1048576) (pmF d x (kU x k))]) (fun i _=>cn - (intOf i).toNat)
 ·exact ⟨0,by omega,rfl,by simpa using ax.out⟩
 obtain ⟨k,hk,rfl,hs⟩:=hrel
 have aQ:=Hd hs
 clear hs
 have U:=Hd (aA ag.out aQ.out.bel)
 by_cases c9:k<cn
 ·have dV:=dT (by omega:k<cn)
  have J:k<x.conns.length:=by rw [cD.out];exact c9
  have db:k<x.routes.length:=by rw [au.out.len];exact J
  obtain ⟨gq,aN,QA,m,mc,cB,ap,c0,c1,c2,c3,bu⟩:=H1.out.cn.cn (k:=k) J
  obtain ⟨br,aF,NA,I,nc,FA,fn,fc,b9,am,e0,e1,bm,bz⟩:=H1.out.ro.rou (k:=k) db
  have bA:=(au.out.fit k J).1
  have H:=(au.out.fit k J).2
  have K:=du.out.sinks _ (List.getElem_mem J)
  rw [show x.conns[k]=x.conns[k]?.getD Cn.zero by rw [List.getElem?_eq_getElem J];rfl] at K
  obtain ⟨cx,bC⟩:∃c,wW x k=c:=⟨_,rfl⟩
  obtain ⟨rx,be⟩:∃r,ru x k=r:=⟨_,rfl⟩
  rw [show x.conns[k]?.getD Cn.zero=cx from bC] at c0 c1 c2 bu bA H K
  rw [show x.routes[k]?.getD Rou.zero=rx from be] at bm bz H
  obtain ⟨N,⟨a,b⟩,ss⟩:=cx
  obtain ⟨D,fs⟩:=rx
  simp only at c0 c1 c2 c3 K
  obtain ⟨cl,b8,b4⟩:=hd3 bC be bA
  have a9:=Hd (show RdC w w.heap.size (bL ss) (.slice QA m mc) from bu)
  have bD:Hid (ss.length=m):=a9.out.pinN
  have hm:m<=1048576:=by rw [←bD.out];exact K
  have aP:=Hd (show dE w NA I D from bm.ints)
  have aq:=Hd (show dE w FA fn fs from bz.ints)
  have cS:fn=I:=by rw [←aq.out.1,←aP.out.1];exact H.same
  subst cS
  obtain ⟨I,rfl⟩:∃y,y=fn:=⟨fn,rfl⟩
  have dR:=aq
  have av:Hid (D.length=I):=aP.out.1
  have ci:Hid (D.Nodup):=H.once
  have aO:Hid (rq ⟨D,fs⟩ I):=by have h:=rq.of H;rw [show (⟨D,fs⟩:Rou).nodes=D from rfl,av.out] at h;exact h
  have et:I<=828:=by have h:=H.bd;rw [show (⟨D,fs⟩:Rou).nodes=D from rfl,av.out] at h;exact h
  have bT:Hid (∀j,j<I→bI d (D[j]?.getD 0)=true):=fun j hj=>by have h:j<D.length:=(by rw [av.out];exact hj);rw [List.getElem?_eq_getElem h];exact H.node _ (List.getElem_mem h)
  have bR:=Hd H.dev
  have bf:Hid (∀v,Below w.heap.size w v→v.cell? ⟨br,aF+k * 2,none⟩=some (.slice NA I nc)):=fun v hv=>(hv.cell (p:=⟨br,aF+k * 2,none⟩) am).trans e0
  have cR:Hid (∀v,Below w.heap.size w v→v.cell? ⟨br,aF+k * 2+1,none⟩=some (.slice FA I fc)):=fun v hv=>(hv.cell (p:=⟨br,aF+k * 2+1,none⟩) am).trans e1
  obtain ⟨dx,cT⟩:=hd2 cB b9
  rw [←U.out.cell (p:=⟨gq,aN+k * 4,none⟩) ap] at c0
  rw [←U.out.cell (p:=⟨gq,aN+k * 4+1,none⟩) ap] at c1
  rw [←U.out.cell (p:=⟨gq,aN+k * 4+2,none⟩) ap] at c2
  rw [←U.out.cell (p:=⟨gq,aN+k * 4+3,none⟩) ap] at c3
  clear cB b9 bC be bA H K bu bm bz e0 e1 aq
  obtain rfl:=dx.out
  obtain rfl:=cT.out
  have dK:=aK U.out ap
  obtain ⟨i0,i1⟩:=ib (by omega:k<cn)
  have i2:(k:Int)<(rn:Int):=by have:=dr.out;omega
  have ao:=Hd (aQ.out.pushBlk #[.int .i64 N,.int .i64 a,.int .i64 b,.slice QA m mc] 158)
  obtain ⟨gc,bl⟩:∃g,wr.heap.size=g:=⟨_,rfl⟩
  go_upto_region 5 with fail
  rw [bl] at ao
  (try rw [bl])
  clear bl c0 c1 c2 c3 dK
  generalize wr.alloc (.cells #[.int .i64 N,.int .i64 a,.int .i64 b,.slice QA m mc] 158)=W2 at *
  have Y:Hid (aJ V W2 [qf gm (k * 1048576) (pmF d x (kU x k)),.blk gc #[.int .i64 N,.int .i64 a,.int .i64 b,.slice QA m mc] 158]):=ao
  clear ao aQ U
  have a6:=Hd (aA ag.out Y.out.bel)
  obtain ⟨b0,b1,b2,b3,ae⟩:=bX (Y.out.blk 1 rfl).1
  obtain ⟨x0,x1,x2,x3,lx⟩:=bX (aC Y.out.bel cv.out)
  obtain ⟨-,-,-,-,-,-,y6,ly⟩:=Fe (aC Y.out.bel ak.out)
  go_wp2_with fail
  refine (qg d x.place N a b ss PA QA pn pc m mc _ (H1.out.pl.ints.below a6.out) (a9.out.below a6.out) dN hm).mono ?_
  rintro _ W4 ⟨o5,b5⟩
  obtain ⟨O5,dy⟩:=hd2 o5 b5
  clear o5 b5 b0 b1 b2 b3 ae y6 ly x0 x1 x2 x3 lx
  rcases O5.out with ⟨_,SN,aw,rfl,o7⟩|⟨dt,_⟩
  rotate_left
  ·exact absurd b4.out dt
  have bU:Hid (aJ V W4 [qf gm (k * 1048576) (pmF d x (kU x k)),.blk gc #[.int .i64 N,.int .i64 a,.int .i64 b,.slice QA m mc] 158,.cel (aG (bQ d x.place ⟨N,⟨a,b⟩,ss⟩)) (.slice SN m aw)]):=Hd (Y.out.pushOwn dy.out o7)
  clear o7 O5 Y a6
  obtain ⟨-,-,-,b3,ae⟩:=bX (bU.out.blk 1 rfl).1
  go_wp2_with fail
  clear b3 ae
  go_loopw [33] (fun i wr=>∃p:Nat,p<=m/\i = .int .i64 (p:Int)/\aJ V wr [qf gm (k * 1048576+p) (pmF d x (kU x k++ss.take p)),.blk gc #[.int .i64 N,.int .i64 a,.int .i64 b,.slice QA m mc] 158,.cel (aG (bQ d x.place ⟨N,⟨a,b⟩,ss⟩)) (.slice SN m aw)]) (fun i _=>m - (intOf i).toNat)
  ·exact ⟨0,by omega,rfl,by rw [List.take_zero,List.append_nil,Nat.add_zero];exact bU.out⟩
  obtain ⟨p,hp,rfl,hs⟩:=hrel
  have W:=Hd hs
  clear hs
  have Z:=Hd (aA ag.out W.out.bel)
  by_cases aY:p<m
  ·have dp:=dT (by omega:p<m)
   have G:p<ss.length:=by rw [bD.out];exact aY
   obtain ⟨bq,oq,cq,bv,cp,bM⟩:=a9.out.pin (k:=p) G
   have dM:=Hd cq
   have q0:=(Z.out.cell (p:=⟨bq,oq+p * 2,none⟩) bv).trans cp
   have q1:=(Z.out.cell (p:=⟨bq,oq+p * 2+1,none⟩) bv).trans bM
   have cY:=aK Z.out bv
   obtain ⟨bk,a5,cu,_,_⟩:=(W.out.ints 2 rfl).2 (by omega)
   have c7:=Hd cu
   clear cu
   obtain rfl:=c7.out
   have cm:l7 x k (ss[p]?.getD ah.zero):=⟨J,by rw [cl.out];rw [List.getElem?_eq_getElem G];exact List.getElem_mem G⟩
   have cd:(bQ d x.place ⟨N,⟨a,b⟩,ss⟩)[p]?.getD 0=bO d x.place (ss[p]?.getD ah.zero):=by
    unfold bQ
    rw [List.getElem?_map,List.getElem?_eq_getElem G]
    rfl
   have aZ:0<=bO d x.place (ss[p]?.getD ah.zero):=by rw [List.getElem?_eq_getElem G];exact b4.out _ (List.getElem_mem G)
   have aS:kU x k++ss.take (p+1)=(kU x k++ss.take p)++[ss[p]?.getD ah.zero]:=by rw [List.take_add_one,List.getElem?_eq_getElem G,List.append_assoc];rfl
   obtain ⟨aU,cf⟩:=hd2 cd cm
   have cj:=yK dP.out aZ
   obtain ⟨aj,al⟩:=hd2 cj aS
   clear cp bM cq G cd cm aZ cj aS
   obtain rfl:=dM.out
   generalize ss[p]?.getD ah.zero=pp at *
   obtain ⟨pa,pb⟩:=pp
   simp only at q0 q1
   have ca:Hid (vW ⟨pa,pb⟩):=aj
   have dL:=aU
   clear aj aU
   obtain ⟨eD,ey⟩:=ib (by omega:p<m)
   obtain ⟨k0,bx⟩:∃k0,jK D (bO d x.place ⟨pa,pb⟩)=some k0:=by
    have h1:=qY au.out cf.out
    rw [b8.out] at h1
    obtain ⟨j,hj,dH⟩:=List.getElem_of_mem h1
    exact ⟨j,yu ci.out hj (by rw [List.getElem?_eq_getElem hj];exact dH)⟩
   have a1:=Hd (qZ bx)
   obtain ⟨VV,a8⟩:∃v,mK d (fI ⟨D,fs⟩ k0)=v:=⟨_,rfl⟩
   have aT:sinkD d x ⟨pa,pb⟩=VV:=by
    rw [uo au.out cf.out]
    unfold ul
    rw [b8.out,bx]
    exact a8
   have da:=Hd a8
   have bW:Hid (putF (pmF d x (kU x k++ss.take p)) ⟨pa,pb⟩ VV=pmF d x (kU x k++ss.take (p+1))):=by show _=_;rw [al.out,←aT,FB]
   generalize bO d x.place ⟨pa,pb⟩=YY at *
   clear bx a8 al aT
   obtain ⟨-,-,-,-,-,-,-,y7,ly⟩:=j6 (aC W.out.bel ak.out)
   obtain ⟨-,-,-,b3,ae⟩:=bX (W.out.blk 1 rfl).1
   have e0:=bf.out _ Z.out
   have ai:=aK Z.out am
   have ad:=Hd (W.out.pushBlk #[.int .i64 pa,.int .i64 pb] 100)
   obtain ⟨gp,a3⟩:∃g,wr.heap.size=g:=⟨_,rfl⟩
   go_upto_region 9 with fail
   rw [a3] at ad
   (try rw [a3])
   clear a3 q0 q1 cY e0 ai b3 ae y7 ly
   generalize wr.alloc (.cells #[.int .i64 pa,.int .i64 pb] 100)=WP at *
   have bs:Hid (aJ V WP [qf gm (k * 1048576+p) (pmF d x (kU x k++ss.take p)),.blk gc #[.int .i64 N,.int .i64 a,.int .i64 b,.slice (some ⟨bq,oq,none⟩) m mc] 158,.cel (aG (bQ d x.place ⟨N,⟨a,b⟩,ss⟩)) (.slice (some ⟨bk,a5,none⟩) m aw),.blk gp #[.int .i64 pa,.int .i64 pb] 100]):=ad
   clear ad
   have cE:=Hd (aA ag.out bs.out.bel)
   have e0:=bf.out _ cE.out
   have ai:=aK cE.out am
   obtain ⟨-,-,-,-,-,-,-,y7,ly⟩:=j6 (aC bs.out.bel ak.out)
   go_wp2_with fail
   clear e0 ai y7 ly
   go_loopw [45] (fun i wr=>∃(q n':Nat) (L':List ah),q<=I/\i = .int .i64 (q:Int)/\aJ V wr [qf gm (n') (pmF d x (L')),.blk gc #[.int .i64 N,.int .i64 a,.int .i64 b,.slice (some ⟨bq,oq,none⟩) m mc] 158,.cel (aG (bQ d x.place ⟨N,⟨a,b⟩,ss⟩)) (.slice (some ⟨bk,a5,none⟩) m aw),.blk gp #[.int .i64 pa,.int .i64 pb] 100]/\(q<=k0/\n'=k * 1048576+p/\L'=kU x k++ss.take p∨k0<q/\n'=k * 1048576+p+1/\L'=kU x k++ss.take (p+1))) (fun i _=>I - (intOf i).toNat)
   ·exact ⟨0,_,_,by omega,rfl,bs.out,.inl ⟨by omega,rfl,rfl⟩⟩
   obtain ⟨q,n',L',hq,rfl,hs,B⟩:=hrel
   have Q:=Hd hs
   clear hs
   have R:=Hd (aA ag.out Q.out.bel)
   obtain ⟨-,-,-,-,-,-,-,y7,ly⟩:=j6 (aC Q.out.bel ak.out)
   have e0:=bf.out _ R.out
   have e1:=cR.out _ R.out
   have ai:=aK R.out am
   by_cases a2:q<I
   ·have dq:=dT (by omega:q<I)
    have cH:q<D.length:=by rw [av.out];exact a2
    obtain ⟨c5,de,bY,bN,bj⟩:=aP.out.2 (by omega)
    have dI:=Hd bY
    have ds:=(R.out.cell (p:=⟨c5,de+q,none⟩) bN).trans (bj q a2)
    have cW:=aK R.out bN
    obtain ⟨cs2,cZ⟩:=Ez (Q.out.ints 2 rfl) aY
    rw [dL.out] at cs2
    have a0:D[q]?.getD 0=YY→q=k0:=fun h=>by
     have h1:=a1.out
     rw [List.getElem?_eq_getElem cH] at h
     rw [List.getElem?_eq_getElem h1.1] at h1
     have h2:D[q]=D[k0]:=by simpa using h.trans h1.2.symm
     exact (List.getElem_inj ci.out).1 h2
    have aW:D[q]?.getD 0≠YY→q≠k0:=fun h h2=>h (by rw [h2];exact a1.out.2)
    obtain ⟨ce,ck⟩:=hd2 a0 aW
    clear bY bj a0 aW cH
    obtain rfl:=dI.out
    generalize D[q]?.getD 0=z at *
    obtain ⟨q0,q1⟩:=ib (by omega:q<I)
    by_cases hz:z=YY
    ·have dz:(z != YY)=false:=by simp [hz]
     have bh:=ce.out hz
     obtain ⟨bg,bb⟩:n'=k * 1048576+p/\L'=kU x k++ss.take p:=by rcases B with h|h;exact h.2;omega
     have bJ:=Hd bh
     subst bg bb
     clear B hz bh
     go_wp2_with fail
     refine (AC ⟨D,fs⟩ _ FA I nc fc q _ (aP.out.below R.out) (dR.out.below R.out) aO.out a2 (by omega)).mono ?_
     rintro _ w6 ⟨PT,pl,pp,rfl,op,b6⟩
     clear ds cW cs2 cZ
     obtain ⟨p0,p1,cw⟩:=fZ (Q.out.blk 3 rfl).1
     obtain ⟨bB,c4⟩:=hd2 op.len op.ints
     have c8:(fI ⟨D,fs⟩ q).length<=q+1:=pV aO.out q (by omega)
     have cV:Hid ((fI ⟨D,fs⟩ q)[0]?.getD 0=D[0]?.getD 0):=(rE aO.out q (by omega)).1
     have cQ:Hid (∀j,0<j→j<(fI ⟨D,fs⟩ q).length→∃mm,0<mm/\mm<I/\(fI ⟨D,fs⟩ q)[j]?.getD 0=D[mm]?.getD 0):=wX aO.out q (by omega)
     have dQ:Hid (VV=mK d (fI ⟨D,fs⟩ q)):=by show _=_;rw [←da.out,←bJ.out]
     rw [bB.out] at c8
     generalize fI ⟨D,fs⟩ q=u at *
     have dm:=Hd (Q.out.below b6)
     clear op b6 e0 e1 ai y7 ly p0 p1 cw
     go_wp2_with fail
     go_loopw [13,64] (fun s i wr=>∃j:Nat,j<=pl/\i = .int .i64 (j:Int)/\s = .int .i64 (mK d (u.take j))/\aJ V wr [qf gm (k * 1048576+p) (pmF d x (kU x k++ss.take p)),.blk gc #[.int .i64 N,.int .i64 a,.int .i64 b,.slice (some ⟨bq,oq,none⟩) m mc] 158,.cel (aG (bQ d x.place ⟨N,⟨a,b⟩,ss⟩)) (.slice (some ⟨bk,a5,none⟩) m aw),.blk gp #[.int .i64 pa,.int .i64 pb] 100]/\Below w6.heap.size w6 wr) (fun _ i _=>pl - (intOf i).toNat)
     ·exact ⟨0,by omega,rfl,by rw [List.take_zero,uq],dm.out,Below.refl _ _⟩
     obtain ⟨j,hj,rfl,rfl,hs,hb⟩:=hrel
     obtain ⟨aB,bo⟩:=hd2 hs hb
     clear hs hb
     have K:=xO bR.out (u.take j)
     have c6:(u.take j).length<=829:=by rw [List.length_take];omega
     by_cases cg:j<pl
     ·have dj:=dT (by omega:j<pl)
      have bE:j<u.length:=by rw [bB.out];exact cg
      have bP:=tC (d:=d) bE
      have bV:bI d (u[j]?.getD 0)=true:=by
       by_cases h0:j=0
       ·subst h0
        rw [cV.out]
        exact bT.out 0 (by omega)
       obtain ⟨mm,_,dC,dl⟩:=cQ.out j (by omega) bE
       rw [dl]
       exact bT.out mm dC
      have ew:=Da bR.out (u[j]?.getD 0)
      obtain ⟨bp,op,cs,bZ,ct⟩:=c4.out.2 (by omega)
      have cz:=(bo.out.cell (p:=⟨bp,op+j,none⟩) bZ).trans (ct j cg)
      have cX:=Hd cs
      have dn:=aK bo.out bZ
      have dd:=Hd bV
      clear ct cs bE bV
      obtain rfl:=cX.out
      generalize u[j]?.getD 0=z at *
      generalize mK d (u.take j)=sm at *
      have ax:=Hd bP
      have ch:=Hd (fun (v:World)=>vv d z v dd.out)
      clear bP
      generalize ndD d z=rz at *
      obtain ⟨j0,j1⟩:=ib (by omega:j<pl)
      have e2:IntKind.i64.wrap (sm+rz)=sm+rz:=IntWalk.i64_in _ (by omega)
      obtain ⟨x0,x1,x2,x3,lx⟩:=bX (aC aB.out.bel cv.out)
      go_wp2_with fail
      refine (ch.out _).mono ?_
      rintro _ w7 ⟨rfl,b7⟩
      have bw:=Hd (aB.out.below b7)
      have dk:=Hd (aA bo.out b7)
      clear b7 cz dn x0 x1 x2 x3 lx
      go_wp2_with fail
      go_roundw
      ·exact ⟨j+1,by omega,by go_num,by rw [ax.out],bw.out,dk.out⟩
      simp [intOf];omega
     have cG:j=pl:=by omega
     have dj:=dF (by omega:pl<=j)
     have cI:Hid (mK d (u.take j)=VV):=by show _=_;rw [dQ.out,List.take_of_length_le (by rw [bB.out,cG];exact Nat.le_refl _)]
     rw [cI.out] at K ⊢
     have cy:j4 VV:=⟨by omega,by omega⟩
     have dw:=Hd cy
     clear cG K c6 cy
     obtain ⟨p0,p1,cw⟩:=fZ (aB.out.blk 3 rfl).1
     go_wp2_with (at_mapUpdate;refine yJ rfl _ _ _ rfl _ aB.out 0 gm (k * 1048576+p) (pmF d x (kU x k++ss.take p)) rfl rfl (by omega) ⟨pa,pb⟩ VV rfl rfl ca.out dw.out ?_;intro w8 S8 cN;have bw:=Hd S8;clear S8 cN)
     go_roundw
     ·exact ⟨q+1,k * 1048576+p+1,kU x k++ss.take (p+1),by omega,by go_num,by have h8:=bw.out;rw [bW.out] at h8;exact h8,.inr ⟨by have:=bJ.out;omega,rfl,rfl⟩⟩
     simp [intOf];omega
    have dz:(z != YY)=true:=by simp [hz]
    have bh:=ck.out hz
    have cO:Hid (q+1<=k0/\n'=k * 1048576+p/\L'=kU x k++ss.take p∨k0<q+1/\n'=k * 1048576+p+1/\L'=kU x k++ss.take (p+1)):=by
     rcases B with h|h
     ·exact .inl ⟨by omega,h.2⟩
     exact .inr ⟨by omega,h.2⟩
    clear hz B
    go_wp2_with fail
    go_roundw
    ·exact ⟨q+1,n',L',by omega,by go_num,Q.out,cO.out⟩
    simp [intOf];omega
   have dG:q=I:=by omega
   have dq:=dF (by omega:I<=q)
   obtain ⟨bg,bb⟩:n'=k * 1048576+p+1/\L'=kU x k++ss.take (p+1):=by
    have h1:=a1.out.1
    rw [av.out] at h1
    rcases B with h|h
    ·omega
    exact h.2
   subst bg bb
   clear B dG
   go_wp2_with fail
   go_roundw
   ·exact ⟨p+1,by omega,by go_num,by have h9:=Q.out.sub (List.Sublist.cons_cons _ (List.Sublist.cons_cons _ (List.Sublist.cons_cons _ (List.nil_sublist _))));rw [Nat.add_assoc] at h9;exact h9⟩
   simp [intOf];omega
  have aR:p=m:=by omega
  have dp:=dF (by omega:m<=p)
  have dA:Hid (kU x k++ss.take p=kU x (k+1)):=by
   show _=_
   rw [List.take_of_length_le (by rw [bD.out,aR];exact Nat.le_refl _),DN J,cl.out]
  have cU:Hid (aJ V wr [qf gm ((k+1) * 1048576) (pmF d x (kU x (k+1)))]):=by
   have h1:=W.out.sub (List.Sublist.cons_cons _ (List.nil_sublist _))
   rw [dA.out] at h1
   exact h1.pmMore (by omega)
  clear aR
  go_wp2_with fail
  go_roundw
  ·exact ⟨k+1,by omega,by go_num,cU.out⟩
  simp [intOf];omega
 have cF:k=cn:=by omega
 have dV:=dF (by omega:cn<=k)
 have HR:Hid (pmF d x (kU x k)=sinkD d x):=by
  show _=_
  rw [show kU x k=x.conns.flatMap Cn.sinks by unfold kU;rw [List.take_of_length_le (by rw [cD.out,cF];exact Nat.le_refl _)],FC]
 clear cF
 go_wp2_with fail
 go_ret
 exact ⟨_,_,rfl,by rw [←HR.out];exact (aQ.out.own 0 rfl).1,U.out⟩
theorem zo {a b:Int} (h1:-9223372036854775808<=a) (h2:a<=9223372036854775807) (h3:-9223372036854775808<=b) (h4:b<=9223372036854775807):vW ⟨a,b⟩:=⟨⟨h1,h2⟩,⟨h3,h4⟩⟩
theorem xF (d:Dev) (x:Lay) (SA LA OA:Option Addr) (sn sc ln lc on oc k:Nat) (it:Int) (es:List LeT) (W:Option Addr) (V Y:Nat) (node:Int) (b n g6 gk g7 gi:Nat) (w:World) (hN:fo w x.net SA LA OA sn sc ln lc on oc) (hf:iQ d x)
  (hk:k<x.blocks.length) (I:jo x k=⟨3,it,es⟩) (hE:RdC w w.heap.size (cO es) (.slice W V Y)) (G:w.heap[g6]?=some (.cells #[.int .i64 x.net.inputs,.slice SA sn sc,.slice LA ln lc,.slice OA on oc] 41 (0,0)))
  (hg:w.heap[gk]?=some (.cells #[.int .i64 3,.int .i64 it,.slice W V Y] 89 (0,0))) (h7:w.heap[g7]?=some (.cells #[.map (some b)] 97 (0,0))) (hi:w.heap[gi]?=some (.cells #[.int .i64 (k:Int)] 3 (0,0))) (hp:qB w b n (sinkD d x)) :
  Calls Tryz.prog 58 #[.int .i64 node,.pointer (some ⟨g6,0,none⟩),.pointer (some ⟨gk,0,none⟩),.pointer (some ⟨g7,0,none⟩),.pointer (some ⟨gi,0,none⟩)] w fun e w'=>e = .returned (.int .i64 (inpD d x k node))/\Below w.heap.size w w':=by
 have H:dI x.net ⟨3,it,es⟩:=by rw [←I];unfold jo;rw [List.getElem?_eq_getElem hk];exact hf.pack.fit _ (List.getElem_mem hk)
 have Q:=lM H
 have D:=kH H
 have aH:V<=2:=by rw [←hE.esN];exact D
 have ag:k<=64:=by have:=hf.pack.len;omega
 have g:inpD d x k node=if l5 x.net es node=0 then 2 else if 6<=l5 x.net es node then 3 else min 100 (2+sinkD d x ⟨(k:Int),l5 x.net es node - 1⟩):=by unfold inpD;rw [I]
 have av:=tX x.net es node
 have U:=Hd (uk x.net SA LA OA sn sc ln lc on oc it es W V Y node w hN hf.pack.net hE Q (by omega))
 have Z:=Hd (fun s=>ry hf.routes s)
 generalize l5 x.net es node=s at *
 generalize inpD d x k node=R at *
 have u:Hid (s=0→R=2):=fun h=>by rw [g,if_pos h]
 have j:Hid (s≠0→6<=s→R=3):=fun h1 h2=>by rw [g,if_neg h1,if_pos h2]
 have q:Hid (s≠0→¬6<=s→R=min 100 (2+sinkD d x ⟨(k:Int),s - 1⟩)):=fun h1 h2=>by rw [g,if_neg h1,if_neg h2]
 obtain ⟨HP,H6,HG,H7,HI⟩:=hd5 hp G hg h7 hi
 obtain ⟨a0,a1,a2,a3⟩:=cs4 G
 obtain ⟨b0,b1,b2⟩:=cs3 hg
 have l6:=aB G
 have lg:=aB hg
 clear hN hf hk I hE G hg h7 hi hp H Q D g
 go_enter Tryz.func58,Tryz.ntmps58
 go_wp2_with fail
 refine U.out.mono ?_
 rintro _ w1 ⟨rfl,K⟩
 have B:=Hd K
 clear K a0 a1 a2 a3 b0 b1 b2 l6 lg
 have m0:=aF (k:=0) (aC B.out H7.out) rfl
 have i0:=aF (k:=0) (aC B.out HI.out) rfl
 have lm:=aB (aC B.out H7.out)
 have li:=aB (aC B.out HI.out)
 by_cases hs:s=0
 ·have J:=Hd (u.out hs)
  subst hs
  clear u j q
  go_wp2_with fail
  go_ret
  exact ⟨aL J.out.symm,B.out⟩
 have aD:=Hd hs
 have d1:(s==0)=false:=by simp [hs]
 by_cases G:6<=s
 ·have J:=Hd (j.out hs G)
  have d2:decide (s≥6)=true:=by simp;omega
  clear hs u j q
  go_wp2_with fail
  go_ret
  exact ⟨aL J.out.symm,B.out⟩
 have J:=Hd (q.out hs (by omega))
 clear u j q
 have d2:decide (s≥6)=false:=by simp;omega
 have e1:IntKind.i64.wrap (s - 1)=s - 1:=IntWalk.i64_in _ (by omega)
 have ae:=(HP.out.below B.out).look (s:=⟨(k:Int),s - 1⟩) (zo (by omega) (by omega) (by omega) (by omega))
 have aw:=Z.out ⟨(k:Int),s - 1⟩
 simp only [BH] at ae
 generalize sinkD d x ⟨(k:Int),s - 1⟩=z at *
 have e2:IntKind.i64.wrap (2+z)=2+z:=IntWalk.i64_in _ (by omega)
 clear hs G
 go_wp2_with fail
 all_goals
  go_ret
  exact ⟨aL (by rw [J.out];omega),B.out⟩
theorem wJ {l:ai} (h:bA l) {i:Nat} (hi:i<l.seqs.length) {j:Nat} (hj:j<(l.seqs[i]?.getD Sq.zero).ins.length):0<=(l.seqs[i]?.getD Sq.zero).ins[j]?.getD 0:=by
 rw [List.getElem?_eq_getElem hj]
 exact ((h.seqs i hi).2 _ (List.getElem_mem hj)).1
theorem tL (d:Dev) (x:Lay) (SA LA OA BA CA PA RA:Option Addr) (sn sc ln lc on oc bn bc cn cc pn pc rn rc:Nat) (w:World) (h:j5 w x SA LA OA BA CA PA RA sn sc ln lc on oc bn bc cn cc pn pc rn rc) (hl:xG x 1048576) (eR:pn<=pc) (eF:pc<=1048576) :
  Calls Tryz.prog 14 #[.agg (dv d),sZ x SA LA OA BA CA PA RA sn sc ln lc on oc bn bc cn cc pn pc rn rc] w fun e w'=>∃AL nL cL AS nS cS,e = .returned (.tuple #[.agg #[.slice AL nL cL,.slice AS nS cS],.bool (tb (iQ d x))])/\aJ w w' [.cel (bg (delD d x).luts) (.slice AL nL cL),.cel (bg (delD d x).seqs) (.slice AS nS cS)]:=by
 obtain ⟨c7,dy,_,_⟩:=h.lens
 obtain ⟨dK,bK,eT⟩:=h.net.lens
 have eH:bn<=1048576:=by rw [←c7];exact hl.blocks
 have fa:cn<=1048576:=by rw [←dy];exact hl.conns
 obtain ⟨b0,bw,cq,H1,ch⟩:=hd5 c7 dK bK h hl
 clear h hl c7 dy dK bK eT
 have aw:=Hd (aD (aD (aD (Below.refl w.heap.size w) (.cells (dv d) 36)) (.cells #[.int .i64 x.net.inputs,.slice SA sn sc,.slice LA ln lc,.slice OA on oc,.slice BA bn bc,.slice CA cn cc,.slice PA pn pc,.slice RA rn rc] 46)) (.cells #[.slice none 0 0,.slice none 0 0] 52))
 have hx:=bS (.cells #[.slice none 0 0,.slice none 0 0] 52) (bS (.cells #[.int .i64 x.net.inputs,.slice SA sn sc,.slice LA ln lc,.slice OA on oc,.slice BA bn bc,.slice CA cn cc,.slice PA pn pc,.slice RA rn rc] 46) (aI w (.cells (dv d) 36)))
 have hy:=bS (.cells #[.slice none 0 0,.slice none 0 0] 52) (aI (w.alloc (.cells (dv d) 36)) (.cells #[.int .i64 x.net.inputs,.slice SA sn sc,.slice LA ln lc,.slice OA on oc,.slice BA bn bc,.slice CA cn cc,.slice PA pn pc,.slice RA rn rc] 46))
 have hz:=aI ((w.alloc (.cells (dv d) 36)).alloc (.cells #[.int .i64 x.net.inputs,.slice SA sn sc,.slice LA ln lc,.slice OA on oc,.slice BA bn bc,.slice CA cn cc,.slice PA pn pc,.slice RA rn rc] 46)) (.cells #[.slice none 0 0,.slice none 0 0] 52)
 simp only [World.size_alloc] at hy hz
 obtain ⟨cW,bD,aX⟩:=hd3 hx hy hz
 clear hx hy hz
 go_enter Tryz.func14,Tryz.ntmps14
 go_upto_region 1 with fail
 generalize ((w.alloc (.cells (dv d) 36)).alloc (.cells #[.int .i64 x.net.inputs,.slice SA sn sc,.slice LA ln lc,.slice OA on oc,.slice BA bn bc,.slice CA cn cc,.slice PA pn pc,.slice RA rn rc] 46)).alloc (.cells #[.slice none 0 0,.slice none 0 0] 52)=W8 at *
 obtain ⟨gY,cd⟩:∃g,w.heap.size+1=g:=⟨_,rfl⟩
 obtain ⟨gR,cm⟩:∃g,gY+1=g:=⟨_,rfl⟩
 rw [cd] at bD aX
 rw [cm] at aX
 (try rw [cd])
 (try rw [cm])
 obtain ⟨dE,dN⟩:=hd2 cd cm
 clear cd cm
 obtain ⟨x0,x1,x2,x3,lx⟩:=bX (aC (Below.refl W8.heap.size W8) cW.out)
 obtain ⟨y0,y1,y2,y3,y4,y5,y6,y7,ly⟩:=j6 (aC (Below.refl W8.heap.size W8) bD.out)
 go_wp2_with fail
 refine (xh d x SA LA OA BA CA PA RA sn sc ln lc on oc bn bc cn cc pn pc rn rc _ (H1.out.below aw.out).net (H1.out.below aw.out).bl (H1.out.below aw.out).cn (H1.out.below aw.out).pl (H1.out.below aw.out).ro eH fa eR eF ch.out.les ch.out.sinks ch.out.nodes).mono ?_
 by_cases hf:iQ d x
 ·rw [ae hf]
  rintro _ w1 ⟨rfl,b1⟩
  obtain ⟨B1,HF⟩:=hd2 b1 hf
  have fU:bn<=64:=by rw [←b0.out];exact hf.pack.len
  have f0:ln<=400:=by rw [←cq.out];exact hf.pack.net.nlut
  have gy:sn<=12:=by rw [←bw.out];exact hf.pack.net.nseq
  clear b1 hf x0 x1 x2 x3 lx y0 y1 y2 y3 y4 y5 y6 y7 ly
  obtain ⟨x0,x1,x2,x3,lx⟩:=bX (aC B1.out cW.out)
  obtain ⟨y0,y1,y2,y3,y4,y5,y6,y7,ly⟩:=j6 (aC B1.out bD.out)
  go_upto_region 4 with fail
  have B2:=Hd (aD B1.out (.cells #[.int .i64 x.net.inputs,.slice SA sn sc,.slice LA ln lc,.slice OA on oc] 41))
  have bH:=Hd (aI w1 (.cells #[.int .i64 x.net.inputs,.slice SA sn sc,.slice LA ln lc,.slice OA on oc] 41))
  obtain ⟨g6,c5⟩:∃g,w1.heap.size=g:=⟨_,rfl⟩
  rw [c5] at bH
  (try rw [c5])
  clear c5
  generalize w1.alloc (.cells #[.int .i64 x.net.inputs,.slice SA sn sc,.slice LA ln lc,.slice OA on oc] 41)=w2 at *
  clear x0 x1 x2 x3 lx y0 y1 y2 y3 y4 y5 y6 y7 ly
  obtain ⟨x0,x1,x2,x3,lx⟩:=bX (aC B2.out cW.out)
  obtain ⟨y0,y1,y2,y3,y4,y5,y6,y7,ly⟩:=j6 (aC B2.out bD.out)
  go_wp2_with fail
  refine (wI d x SA LA OA BA CA PA RA sn sc ln lc on oc bn bc cn cc pn pc rn rc _ (H1.out.below (aA aw.out B2.out)) HF.out.routes ch.out).mono ?_
  rintro _ w3 ⟨gm,nm,rfl,dC,b3⟩
  have B3:=Hd (aA B2.out b3)
  have cy:=Hd (aC b3 bH.out)
  have cw:=Hd dC
  clear b3 dC bH
  go_upto_region 5 with fail
  have aq:=Hd (aA aw.out (aD B3.out (.cells #[.map (some gm)] 97)))
  have a6:=Hd (bS (.cells #[.map (some gm)] 97) cy.out)
  have bE:=Hd (aI w3 (.cells #[.map (some gm)] 97))
  have cD:=Hd (cw.out.below (aD (Below.refl _ _) (.cells #[.map (some gm)] 97)))
  have dG:=Hd (aC (aD B3.out (.cells #[.map (some gm)] 97)) aX.out)
  have dB:=Hd (aC (aD B3.out (.cells #[.map (some gm)] 97)) bD.out)
  obtain ⟨g7,cG⟩:∃g,w3.heap.size=g:=⟨_,rfl⟩
  rw [cG] at bE
  (try rw [cG])
  clear cG cy cw x0 x1 x2 x3 lx y0 y1 y2 y3 y4 y5 y6 y7 ly
  generalize w3.alloc (.cells #[.map (some gm)] 97)=W9 at *
  have c3:=bE
  clear bE
  have mkL:=fun W=>lU ln (by omega) W
  have eL:=fun W=>lU sn (by omega) W
  have am:=Hd (aJ.nil (Below.refl W9.heap.size W9))
  obtain ⟨n0,n1,n2,n3,bs⟩:=bX (aC (Below.refl W9.heap.size W9) a6.out)
  go_cut [8] (fun p w'=>ni W9 ln sn p w')
  case first =>
   go_region
   all_goals
    go_wp2_with fail
    go_meet
    (try simp only [uH])
    first|exact (Bh am.out ln sn).drew|exact (Bi am.out ln sn).drew|exact (Bj am.out ln sn).drew|exact (Bl am.out ln sn).drew|exact (Bn am.out ln sn).drew|exact (Bo am.out ln sn).drew
  obtain ⟨V,G,u,rfl,d3⟩:=hcut
  have em:=Hd d3
  clear d3 mkL eL n0 n1 n2 n3 bs
  obtain ⟨-,-,-,-,y4,ly⟩:=Fb (aC em.out.bel dB.out)
  have gC:∀(fn:Fn) (first dH:Array Value) (w:World),(Instr.makeFunc fn first dH).run Tryz.prog w = .ok (.func fn first dH) w:=fun _ _ _ _=>rfl
  go_wp2_with fail
  clear y4 ly
  go_loopw [41] (fun i wr=>∃(k:Nat) (Q I:Array Value),k<=bn/\i = .int .i64 (k:Int)/\aJ W9 wr [.blk V #[.slice (some ⟨G,0,none⟩) ln ln,.slice (some ⟨u,0,none⟩) sn sn] 52,.blk G (Q) 26,.cels (((delTo d x k).luts).map aG) (Q).toList,.blk u (I) 26,.cels (((delTo d x k).seqs).map aG) (I).toList]) (fun i _=>bn - (intOf i).toNat)
  ·exact ⟨0,kS ln,kS sn,by omega,rfl,by rw [show delTo d x 0=⟨List.replicate x.net.luts.length [],List.replicate x.net.seqs.length []⟩ from rfl,cq.out,bw.out];exact em.out⟩
  obtain ⟨k,Q,I,hk,rfl,hs⟩:=hrel
  have am:=Hd hs
  clear hs
  by_cases eS:k<bn
  ·have ft:=dT (by omega:k<bn)
   have bQ:k<x.blocks.length:=by rw [b0.out];exact eS
   have a1:=Hd (aA aq.out am.out.bel)
   obtain ⟨gb,ob,EA,Z,ec,dU,cg,c0,c1,c2,r2⟩:=H1.out.bl.blk (k:=k) bQ
   have eK:=aK a1.out cg
   rw [←a1.out.cell (p:=⟨gb,ob+k * 3,none⟩) cg] at c0
   rw [←a1.out.cell (p:=⟨gb,ob+k * 3+1,none⟩) cg] at c1
   rw [←a1.out.cell (p:=⟨gb,ob+k * 3+2,none⟩) cg] at c2
   have a3:dI x.net (jo x k):=by unfold jo;rw [List.getElem?_eq_getElem bQ];exact HF.out.pack.fit _ (List.getElem_mem bQ)
   have bC:=lW (d:=d) HF.out.pack k (by omega)
   obtain ⟨bx,bU⟩:∃b,jo x k=b:=⟨_,rfl⟩
   have cA:delTo d x (k+1)=lesTo d x k bx.les (ramS d x k bx (delTo d x k)) bx.les.length:=by show blkS d x k _=_;unfold blkS;rw [bU]
   rw [show x.blocks[k]?.getD Blk.zero=bx from bU] at c0 c1 r2
   rw [bU] at a3
   have dR:=lM a3
   have bL:=kH a3
   obtain ⟨kd,it,es⟩:=bx
   simp only at c0 c1 bL cA
   have fb:=Hd bU
   have HE:=Hd (show RdC w w.heap.size (cO es) (.slice EA Z ec) from r2)
   have b8:Hid (es.length=Z):=HE.out.esN
   have gF:Z<=2:=by rw [←b8.out];exact bL
   have eY:=Hd (show ∀e∈es,dQ x.net e from dR)
   obtain ⟨ck,fl⟩:=hd2 cA dU
   clear bU bL dR r2 dU cA
   obtain rfl:=fl.out
   obtain ⟨D0,dx⟩:∃D,delTo d x k=D:=⟨_,rfl⟩
   rw [dx] at ck am bC
   obtain ⟨i0,i1⟩:=ib (by omega:k<bn)
   have fO:k<=64:=by omega
   have bh:Hid (aJ W9 ((wr.alloc (.cells #[.int .i64 (k:Int)] 3)).alloc (.cells #[.int .i64 kd,.int .i64 it,.slice EA Z ec] 89)) [.blk V #[.slice (some ⟨G,0,none⟩) ln ln,.slice (some ⟨u,0,none⟩) sn sn] 52,.blk G (Q) 26,.cels ((D0.luts).map aG) (Q).toList,.blk u (I) 26,.cels ((D0.seqs).map aG) (I).toList,.blk wr.heap.size #[.int .i64 (k:Int)] 3,.blk (wr.heap.size+1) #[.int .i64 (kd),.int .i64 (it),.slice EA Z ec] 89]):=Hd (by have h1:=(am.out.pushBlk #[.int .i64 (k:Int)] 3).pushBlk #[.int .i64 kd,.int .i64 it,.slice EA Z ec] 89;simp only [World.size_alloc] at h1;exact h1)
   go_upto_region 9 with fail
   obtain ⟨gi,cZ⟩:∃g,wr.heap.size=g:=⟨_,rfl⟩
   obtain ⟨gk,cT⟩:∃g,gi+1=g:=⟨_,rfl⟩
   rw [cZ] at bh
   (try rw [cZ])
   rw [cT] at bh
   (try rw [cT])
   clear cZ cT c0 c1 c2 eK dx
   generalize (wr.alloc (.cells #[.int .i64 (k:Int)] 3)).alloc (.cells #[.int .i64 kd,.int .i64 it,.slice EA Z ec] 89)=W1 at *
   have bW:Hid (aJ W9 W1 [.blk V #[.slice (some ⟨G,0,none⟩) ln ln,.slice (some ⟨u,0,none⟩) sn sn] 52,.blk G (Q) 26,.cels ((D0.luts).map aG) (Q).toList,.blk u (I) 26,.cels ((D0.seqs).map aG) (I).toList,.blk gi #[.int .i64 (k:Int)] 3,.blk gk #[.int .i64 (kd),.int .i64 (it),.slice EA Z ec] 89]):=bh
   clear bh am a1 i0
   obtain ⟨k0,k1,k2,lk⟩:=jU (bW.out.blk 6 rfl).1
   by_cases b6:kd=2
   ·subst b6
    obtain ⟨X,hX⟩:∃X:Nat,it=(X:Int):=⟨it.toNat,by have:=il.1 a3.1;omega⟩
    subst hX
    have bp:X<x.net.seqs.length:=by have:=il.1 a3.1;omega
    have gE:X<sn:=by rw [←bw.out];exact bp
    have cC:=(a3.2.resolve_left (by rintro ⟨h,_⟩;change (2:Int)=3 at h;omega)).2
    have bN:es=[]:=cC.1
    have eG:(x.net.seqs[X]?.getD Sq.zero).kind=1:=by have h:=cC.2 rfl;simpa [ai.sq] using h
    have d1:=HF.out.pack.net.seqs X bp
    have ed:=d1.1.resolve_left (by rintro ⟨h,_⟩;omega)
    obtain ⟨sb,so,IA,im,ic,bR,bY,_,_,d2,rI⟩:=H1.out.net.sq.sq' (k:=X) bp
    have ay:=Hd rI.ints
    have bv:im=4:=by rw [←ay.out.1];exact ed.2.2
    have cK:=Hd bR
    have fq:Hid (∀j,j<4→0<=(x.net.seqs[X]?.getD Sq.zero).ins[j]?.getD 0):=fun j hj=>wJ HF.out.pack.net bp (by rw [ay.out.1,bv];exact hj)
    have co:Hid (∀v,Below w.heap.size w v→v.cell? ⟨sb,so+X * 3+2,none⟩=some (.slice IA im ic)):=fun v hv=>(hv.cell (p:=⟨sb,so+X * 3+2,none⟩) bY).trans d2
    clear bR d2 rI eG ed cC d1
    obtain rfl:=cK.out
    subst bv
    obtain ⟨bi,oi,aR,aZ,aY⟩:=ay.out.2 (by omega)
    have bT:=Hd aR
    have fj:Hid (∀j,j<4→∀v,Below w.heap.size w v→v.cell? ⟨bi,oi+j,none⟩=some (.int .i64 ((x.net.seqs[X]?.getD Sq.zero).ins[j]?.getD 0))):=fun j hj v hv=>(hv.cell (p:=⟨bi,oi+j,none⟩) aZ).trans (aY j hj)
    clear aR aY
    obtain rfl:=bT.out
    have ar:=Hd (aA aq.out bW.out.bel)
    have d2:=co.out _ ar.out
    have du:=aK ar.out bY
    obtain ⟨gA,f2⟩:=ib (by omega:X<sn)
    obtain ⟨n0,n1,n2,n3,bs⟩:=bX (aC bW.out.bel a6.out)
    go_wp2_with fail
    clear k0 k1 k2 lk d2 du ar n0 n1 n2 n3 bs
    go_loopw [57] (fun i wr=>∃(j:Nat) (I:Array Value),j<=4/\i = .int .i64 (j:Int)/\aJ W9 wr [.blk V #[.slice (some ⟨G,0,none⟩) ln ln,.slice (some ⟨u,0,none⟩) sn sn] 52,.blk G (Q) 26,.cels ((D0.luts).map aG) (Q).toList,.blk u (I) 26,.cels ((dV D0.seqs X (rams d x k X j)).map aG) (I).toList,.blk gi #[.int .i64 (k:Int)] 3,.blk gk #[.int .i64 (2),.int .i64 ((X:Int)),.slice EA Z ec] 89]) (fun i _=>4 - (intOf i).toNat)
    ·exact ⟨0,I,by omega,rfl,by rw [show rams d x k X 0=[] from rfl,qW];exact bW.out⟩
    obtain ⟨j,I,hj,rfl,hs⟩:=hrel
    have HS:=Hd hs
    clear hs
    have ar:=Hd (aA aq.out HS.out.bel)
    by_cases br:j<4
    ·have dj:decide ((j:Int)<4)=true:=by simp;omega
     have au:X<(dV D0.seqs X (rams d x k X j)).length:=by rw [jg,bC.sn];exact bp
     have bf:((dV D0.seqs X (rams d x k X j))[X]?.getD []).length<=5000:=by
      have h1:=oV bC.seqs X (ys:=rams d x k X j) (by rw [qL];omega) X
      omega
     have aU:dV D0.seqs X (rams d x k X (j+1))=(dV D0.seqs X (rams d x k X j)).set X ((dV D0.seqs X (rams d x k X j))[X]?.getD []++[ramW d x k X j]):=by rw [wQ,←pR (by rw [bC.sn];exact bp)]
     have bo:ramW d x k X j=if 0<(x.net.seqs[X]?.getD Sq.zero).ins[j]?.getD 0 then min 100 (sinkD d x ⟨(k:Int),(j:Int)⟩) else 0:=rfl
     have ci:=fj.out j br _ ar.out
     have dW:=fq.out j br
     have cl:=aK ar.out aZ
     generalize (x.net.seqs[X]?.getD Sq.zero).ins[j]?.getD 0=v at *
     obtain ⟨Y,hY⟩:∃Y,ramW d x k X j=Y:=⟨_,rfl⟩
     rw [hY] at aU bo
     have aH:=Hd aU
     clear aU hY
     have j0:(0:Int)<=(j:Int):=by omega
     have j1:(j:Int)<((4:Nat):Int):=by omega
     obtain ⟨i0,li⟩:=EQ (HS.out.blk 5 rfl).1
     by_cases hv:v=0
     ·subst hv
      rw [if_neg (by omega)] at bo
      subst bo
      generalize c6:dV D0.seqs X (rams d x k X j)=SQ at *
      have bO:=aH
      have cM:Hid (aJ W9 wr [.blk V #[.slice (some ⟨G,0,none⟩) ln ln,.slice (some ⟨u,0,none⟩) sn sn] 52,.blk G (Q) 26,.cels ((D0.luts).map aG) (Q).toList,.blk u (I) 26,.cels ((SQ).map aG) (I).toList,.blk gi #[.int .i64 (k:Int)] 3,.blk gk #[.int .i64 (2),.int .i64 ((X:Int)),.slice EA Z ec] 89]):=HS
      clear dW c6 aH HS
      go_upto_region 16 with fail
      clear ci cl i0 li
      obtain ⟨B,nb,cb,aT,az,H⟩:=cM.out.rowAt 4 X rfl au
      obtain ⟨aQ,ea⟩:=hd2 aT az
      have ef:nb<=5000:=by rw [←az];exact bf
      have HT:Hid (aJ W9 wr.drew [.blk V #[.slice (some ⟨G,0,none⟩) ln ln,.slice (some ⟨u,0,none⟩) sn sn] 52,.blk G (Q) 26,.cels ((D0.luts).map aG) (Q).toList,.blk u (I) 26,.cels (((SQ).map aG).set X (.int 0)) ((I).toList.set X (.int .i64 0)),.blk gi #[.int .i64 (k:Int)] 3,.blk gk #[.int .i64 (2),.int .i64 ((X:Int)),.slice EA Z ec] 89,.cel (aG (SQ[X]?.getD [])) (.slice B nb cb)]):=Hd H.drew
      clear H aT az
      have U:Hid (∀(v:World) (p1 p2 p4:Pc) (r:List Pc),aJ W9 v (.blk V #[.slice (some ⟨G,0,none⟩) ln ln,.slice (some ⟨u,0,none⟩) sn sn] 52 :: p1 :: p2 :: .blk u (I) 26 :: p4 :: .blk gi #[.int .i64 (k:Int)] 3 :: .blk gk #[.int .i64 (2),.int .i64 ((X:Int)),.slice EA Z ec] 89 ::  r)→(v.cell? ⟨V,0,none⟩=some (.slice (some ⟨G,0,none⟩) ln ln)/\v.cell? ⟨V,1,none⟩=some (.slice (some ⟨u,0,none⟩) sn sn)/\v.cell? ⟨gk,1,none⟩=some (.int .i64 (X:Int))/\v.cell? ⟨u,X,none⟩=some (.slice B nb cb))):=Hd fun v p1 p2 p4 r h=>⟨aF (k:=0) (h.blk 0 rfl).1 rfl,aF (k:=1) (h.blk 0 rfl).1 rfl,aF (k:=1) (h.blk 6 rfl).1 rfl,aF (k:=X) (h.blk 3 rfl).1 aQ.out⟩
      refine wp_region_noPanic ?_
      refine jD 14 (fun w'=>w'.cell? ⟨V,0,none⟩=some (.slice (some ⟨G,0,none⟩) ln ln)/\w'.cell? ⟨V,1,none⟩=some (.slice (some ⟨u,0,none⟩) sn sn)/\w'.cell? ⟨gk,1,none⟩=some (.int .i64 (X:Int))/\w'.cell? ⟨u,X,none⟩=some (.slice B nb cb)) (U.out _ _ _ _ _ HT.out) (fun H R=>?_)
      refine onT H 0 opA R ?_
      refine onT H 1 (opB opA) R ?_
      refine onT H 2 (opB (opB opA)) R ?_
      refine onT H 3 (opB (opB (opB opA))) R ?_
      refine onT H 4 (opC opA) R ?_
      refine onT H 5 (opC (opB opA)) R ?_
      refine onT H 6 (opC (opB (opB opA))) R ?_
      refine onT H 7 (opC (opB (opB (opB opA)))) R ?_
      refine onT H 8 (opC (opC opA)) R ?_
      refine onT H 9 (opC (opC (opB opA))) R ?_
      refine onT H 10 (opC (opC (opB (opB opA)))) R ?_
      have HA:Hid (aJ W9 (wr.alloc (.cells #[.int .i64 (0)] 3)).drew [.blk V #[.slice (some ⟨G,0,none⟩) ln ln,.slice (some ⟨u,0,none⟩) sn sn] 52,.blk G (Q) 26,.cels ((D0.luts).map aG) (Q).toList,.blk u (I) 26,.cels (((SQ).map aG).set X (.int 0)) ((I).toList.set X (.int .i64 0)),.blk gi #[.int .i64 (k:Int)] 3,.blk gk #[.int .i64 (2),.int .i64 ((X:Int)),.slice EA Z ec] 89,.cel (aG (SQ[X]?.getD [])) (.slice B nb cb)]):=Hd (HT.out.alloc _)
      refine lD H 11 (opC (opC (opB (opB (opB opA))))) (fun K hK=>?_)
      go_simp
      refine hK.out _ _ (U.out _ _ _ _ _ HA.out) (fun R=>?_)
      clear hK K
      try simp only [Act.put,List.setIfInBounds_toArray,List.set_cons_zero,List.set_cons_succ]
      refine lD H 12 (opC (opC (opC opA))) (fun K hK=>?_)
      refine gu rfl _ _ (by rfl) _ HA.out 7 B nb cb (SQ[X]?.getD []) 0 _ (0,0) rfl (by rfl) (by rfl) (aI _ _) (by omega) ?_
      intro g8 J w8 S8 _
      have ao:Hid (aJ W9 w8 [.blk V #[.slice (some ⟨G,0,none⟩) ln ln,.slice (some ⟨u,0,none⟩) sn sn] 52,.blk G (Q) 26,.cels ((D0.luts).map aG) (Q).toList,.blk u (I) 26,.cels (((SQ).map aG).set X (.int 0)) ((I).toList.set X (.int .i64 0)),.blk gi #[.int .i64 (k:Int)] 3,.blk gk #[.int .i64 (2),.int .i64 ((X:Int)),.slice EA Z ec] 89,.cel (aG (SQ[X]?.getD []++[0])) (.slice (some ⟨g8,0,none⟩) (nb+1) J)]):=Hd S8
      clear S8
      refine hK.out _ _ (U.out _ _ _ _ _ ao.out) (fun R=>?_)
      clear hK K
      try simp only [Act.put,List.setIfInBounds_toArray,List.set_cons_zero,List.set_cons_succ]
      have c8:=aF (k:=X) (ao.out.blk 3 rfl).1 aQ.out
      have f8:=aW (ao.out.blk 3 rfl).1 X
      have q8:=aB (ao.out.blk 3 rfl).1
      refine onT H 13 (opC (opC (opC (opB opA)))) R ?_
      refine uJ H 14 (opC (opC (opC (opB (opB opA))))) ?_
      go_wp2_with fail
      refine NoPanic.normal ?_
      have a9:Hid (aJ W9 (w8.setCell ⟨u,X,none⟩ (.slice (some ⟨g8,0,none⟩) (nb+1) J)) [.blk V #[.slice (some ⟨G,0,none⟩) ln ln,.slice (some ⟨u,0,none⟩) sn sn] 52,.blk G (Q) 26,.cels ((D0.luts).map aG) (Q).toList,.blk u ((I).setIfInBounds X (.slice (some ⟨g8,0,none⟩) (nb+1) J)) 26,.cels (((SQ).set X (SQ[X]?.getD []++[0])).map aG) ((I).setIfInBounds X (.slice (some ⟨g8,0,none⟩) (nb+1) J)).toList,.blk gi #[.int .i64 (k:Int)] 3,.blk gk #[.int .i64 (2),.int .i64 ((X:Int)),.slice EA Z ec] 89]):=Hd (((ao.out.put 3 rfl X (.slice (some ⟨g8,0,none⟩) (nb+1) J)).rowBack 4 7 X (by decide) rfl au rfl).sub (qs:=[.blk V #[.slice (some ⟨G,0,none⟩) ln ln,.slice (some ⟨u,0,none⟩) sn sn] 52,.blk G (Q) 26,.cels ((D0.luts).map aG) (Q).toList,.blk u ((I).setIfInBounds X (.slice (some ⟨g8,0,none⟩) (nb+1) J)) 26,.cels (((SQ).set X (SQ[X]?.getD []++[0])).map aG) ((I).setIfInBounds X (.slice (some ⟨g8,0,none⟩) (nb+1) J)).toList,.blk gi #[.int .i64 (k:Int)] 3,.blk gk #[.int .i64 (2),.int .i64 ((X:Int)),.slice EA Z ec] 89]) (List.sublist_append_left _ [_]))
      go_wp2_with fail
      go_roundw
      ·exact ⟨j+1,_,by omega,by go_num,by rw [bO.out];exact a9.out⟩
      simp [intOf];omega
     have dv:(v != 0)=true:=by simp [hv]
     rw [if_pos (by omega)] at bo
     have gx:=ry HF.out.routes ⟨(k:Int),(j:Int)⟩
     have dY:=(cD.out.below HS.out.bel).look (s:=⟨(k:Int),(j:Int)⟩) (zo (by omega) (by omega) (by omega) (by omega))
     simp only [BH] at dY
     generalize sinkD d x ⟨(k:Int),(j:Int)⟩=z at *
     have d8:(if z<100 then z else 100)=Y:=by rw [bo];split <;> omega
     generalize c6:dV D0.seqs X (rams d x k X j)=SQ at *
     have bO:=aH
     have cM:Hid (aJ W9 wr [.blk V #[.slice (some ⟨G,0,none⟩) ln ln,.slice (some ⟨u,0,none⟩) sn sn] 52,.blk G (Q) 26,.cels ((D0.luts).map aG) (Q).toList,.blk u (I) 26,.cels ((SQ).map aG) (I).toList,.blk gi #[.int .i64 (k:Int)] 3,.blk gk #[.int .i64 (2),.int .i64 ((X:Int)),.slice EA Z ec] 89]):=HS
     have dA:=aC HS.out.bel c3.out
     obtain ⟨m0,fh⟩:=EQ dA
     have cJ:z<100∨100<=z:=by omega
     clear hv bo c6 aH HS dW dA
     go_upto_region 16 with fail
     clear ci cl i0 li m0 fh dY cJ d8
     obtain ⟨B,nb,cb,aT,az,H⟩:=cM.out.rowAt 4 X rfl au
     obtain ⟨aQ,ea⟩:=hd2 aT az
     have ef:nb<=5000:=by rw [←az];exact bf
     have HT:Hid (aJ W9 wr.drew [.blk V #[.slice (some ⟨G,0,none⟩) ln ln,.slice (some ⟨u,0,none⟩) sn sn] 52,.blk G (Q) 26,.cels ((D0.luts).map aG) (Q).toList,.blk u (I) 26,.cels (((SQ).map aG).set X (.int 0)) ((I).toList.set X (.int .i64 0)),.blk gi #[.int .i64 (k:Int)] 3,.blk gk #[.int .i64 (2),.int .i64 ((X:Int)),.slice EA Z ec] 89,.cel (aG (SQ[X]?.getD [])) (.slice B nb cb)]):=Hd H.drew
     clear H aT az
     have U:Hid (∀(v:World) (p1 p2 p4:Pc) (r:List Pc),aJ W9 v (.blk V #[.slice (some ⟨G,0,none⟩) ln ln,.slice (some ⟨u,0,none⟩) sn sn] 52 :: p1 :: p2 :: .blk u (I) 26 :: p4 :: .blk gi #[.int .i64 (k:Int)] 3 :: .blk gk #[.int .i64 (2),.int .i64 ((X:Int)),.slice EA Z ec] 89 ::  r)→(v.cell? ⟨V,0,none⟩=some (.slice (some ⟨G,0,none⟩) ln ln)/\v.cell? ⟨V,1,none⟩=some (.slice (some ⟨u,0,none⟩) sn sn)/\v.cell? ⟨gk,1,none⟩=some (.int .i64 (X:Int))/\v.cell? ⟨u,X,none⟩=some (.slice B nb cb))):=Hd fun v p1 p2 p4 r h=>⟨aF (k:=0) (h.blk 0 rfl).1 rfl,aF (k:=1) (h.blk 0 rfl).1 rfl,aF (k:=1) (h.blk 6 rfl).1 rfl,aF (k:=X) (h.blk 3 rfl).1 aQ.out⟩
     refine wp_region_noPanic ?_
     refine jD 14 (fun w'=>w'.cell? ⟨V,0,none⟩=some (.slice (some ⟨G,0,none⟩) ln ln)/\w'.cell? ⟨V,1,none⟩=some (.slice (some ⟨u,0,none⟩) sn sn)/\w'.cell? ⟨gk,1,none⟩=some (.int .i64 (X:Int))/\w'.cell? ⟨u,X,none⟩=some (.slice B nb cb)) (U.out _ _ _ _ _ HT.out) (fun H R=>?_)
     refine onT H 0 opA R ?_
     refine onT H 1 (opB opA) R ?_
     refine onT H 2 (opB (opB opA)) R ?_
     refine onT H 3 (opB (opB (opB opA))) R ?_
     refine onT H 4 (opC opA) R ?_
     refine onT H 5 (opC (opB opA)) R ?_
     refine onT H 6 (opC (opB (opB opA))) R ?_
     refine onT H 7 (opC (opB (opB (opB opA)))) R ?_
     refine onT H 8 (opC (opC opA)) R ?_
     refine onT H 9 (opC (opC (opB opA))) R ?_
     refine onT H 10 (opC (opC (opB (opB opA)))) R ?_
     have HA:Hid (aJ W9 (wr.alloc (.cells #[.int .i64 (Y)] 3)).drew [.blk V #[.slice (some ⟨G,0,none⟩) ln ln,.slice (some ⟨u,0,none⟩) sn sn] 52,.blk G (Q) 26,.cels ((D0.luts).map aG) (Q).toList,.blk u (I) 26,.cels (((SQ).map aG).set X (.int 0)) ((I).toList.set X (.int .i64 0)),.blk gi #[.int .i64 (k:Int)] 3,.blk gk #[.int .i64 (2),.int .i64 ((X:Int)),.slice EA Z ec] 89,.cel (aG (SQ[X]?.getD [])) (.slice B nb cb)]):=Hd (HT.out.alloc _)
     refine lD H 11 (opC (opC (opB (opB (opB opA))))) (fun K hK=>?_)
     go_simp
     refine hK.out _ _ (U.out _ _ _ _ _ HA.out) (fun R=>?_)
     clear hK K
     try simp only [Act.put,List.setIfInBounds_toArray,List.set_cons_zero,List.set_cons_succ]
     refine lD H 12 (opC (opC (opC opA))) (fun K hK=>?_)
     refine gu rfl _ _ (by rfl) _ HA.out 7 B nb cb (SQ[X]?.getD []) Y _ (0,0) rfl (by rfl) (by rfl) (aI _ _) (by omega) ?_
     intro g8 J w8 S8 _
     have ao:Hid (aJ W9 w8 [.blk V #[.slice (some ⟨G,0,none⟩) ln ln,.slice (some ⟨u,0,none⟩) sn sn] 52,.blk G (Q) 26,.cels ((D0.luts).map aG) (Q).toList,.blk u (I) 26,.cels (((SQ).map aG).set X (.int 0)) ((I).toList.set X (.int .i64 0)),.blk gi #[.int .i64 (k:Int)] 3,.blk gk #[.int .i64 (2),.int .i64 ((X:Int)),.slice EA Z ec] 89,.cel (aG (SQ[X]?.getD []++[Y])) (.slice (some ⟨g8,0,none⟩) (nb+1) J)]):=Hd S8
     clear S8
     refine hK.out _ _ (U.out _ _ _ _ _ ao.out) (fun R=>?_)
     clear hK K
     try simp only [Act.put,List.setIfInBounds_toArray,List.set_cons_zero,List.set_cons_succ]
     have c8:=aF (k:=X) (ao.out.blk 3 rfl).1 aQ.out
     have f8:=aW (ao.out.blk 3 rfl).1 X
     have q8:=aB (ao.out.blk 3 rfl).1
     refine onT H 13 (opC (opC (opC (opB opA)))) R ?_
     refine uJ H 14 (opC (opC (opC (opB (opB opA))))) ?_
     go_wp2_with fail
     refine NoPanic.normal ?_
     have a9:Hid (aJ W9 (w8.setCell ⟨u,X,none⟩ (.slice (some ⟨g8,0,none⟩) (nb+1) J)) [.blk V #[.slice (some ⟨G,0,none⟩) ln ln,.slice (some ⟨u,0,none⟩) sn sn] 52,.blk G (Q) 26,.cels ((D0.luts).map aG) (Q).toList,.blk u ((I).setIfInBounds X (.slice (some ⟨g8,0,none⟩) (nb+1) J)) 26,.cels (((SQ).set X (SQ[X]?.getD []++[Y])).map aG) ((I).setIfInBounds X (.slice (some ⟨g8,0,none⟩) (nb+1) J)).toList,.blk gi #[.int .i64 (k:Int)] 3,.blk gk #[.int .i64 (2),.int .i64 ((X:Int)),.slice EA Z ec] 89]):=Hd (((ao.out.put 3 rfl X (.slice (some ⟨g8,0,none⟩) (nb+1) J)).rowBack 4 7 X (by decide) rfl au rfl).sub (qs:=[.blk V #[.slice (some ⟨G,0,none⟩) ln ln,.slice (some ⟨u,0,none⟩) sn sn] 52,.blk G (Q) 26,.cels ((D0.luts).map aG) (Q).toList,.blk u ((I).setIfInBounds X (.slice (some ⟨g8,0,none⟩) (nb+1) J)) 26,.cels (((SQ).set X (SQ[X]?.getD []++[Y])).map aG) ((I).setIfInBounds X (.slice (some ⟨g8,0,none⟩) (nb+1) J)).toList,.blk gi #[.int .i64 (k:Int)] 3,.blk gk #[.int .i64 (2),.int .i64 ((X:Int)),.slice EA Z ec] 89]) (List.sublist_append_left _ [_]))
     go_wp2_with fail
     go_roundw
     ·exact ⟨j+1,_,by omega,by go_num,by rw [bO.out];exact a9.out⟩
     simp [intOf];omega
    have fd:j=4:=by omega
    subst fd
    have dj:decide (((4:Nat):Int)<4)=false:=by simp
    have fX:decide ((4:Int)<4)=false:=by simp
    have eo:Z=0:=by rw [←b8.out,bN];rfl
    have bF:Hid (delTo d x (k+1)=⟨D0.luts,dV D0.seqs X (rams d x k X 4)⟩):=by
     show _=_
     rw [ck.out,bN]
     rfl
    subst eo
    clear bN br
    obtain ⟨-,-,k2,lk⟩:=jU (HS.out.blk 6 rfl).1
    go_wp2_with fail
    clear k2 lk
    obtain ⟨wb,rfl⟩:∃y,y=wr:=⟨wr,rfl⟩
    go_loopw [89] (fun i wr=>i = .int .i64 0/\wb=wr) (fun _ _=>0)
    ·exact ⟨rfl,rfl⟩
    obtain ⟨rfl,rfl⟩:=hrel
    go_wp2_with fail
    go_roundw
    ·exact ⟨k+1,_,_,by omega,by go_num,by rw [bF.out];exact HS.out.sub (List.sublist_append_left _ [_,_])⟩
    simp [intOf];omega
   have d2:(kd==2)=false:=by simp [b6]
   have cr:ramS d x k ⟨kd,it,es⟩ D0=D0:=if_neg b6
   rw [cr] at ck
   clear b6 cr
   go_wp2_with fail
   clear k0 k1 k2 lk
   go_loopw [89] (fun i wr=>∃(q:Nat) (Q I:Array Value),q<=Z/\i = .int .i64 (q:Int)/\aJ W9 wr [.blk V #[.slice (some ⟨G,0,none⟩) ln ln,.slice (some ⟨u,0,none⟩) sn sn] 52,.blk G (Q) 26,.cels (((lesTo d x k es D0 q).luts).map aG) (Q).toList,.blk u (I) 26,.cels (((lesTo d x k es D0 q).seqs).map aG) (I).toList,.blk gi #[.int .i64 (k:Int)] 3,.blk gk #[.int .i64 (kd),.int .i64 (it),.slice EA Z ec] 89]) (fun i _=>Z - (intOf i).toNat)
   ·exact ⟨0,Q,I,by omega,rfl,bW.out⟩
   obtain ⟨q,Q,I,hq,rfl,hs⟩:=hrel
   have bZ:=Hd hs
   clear hs
   by_cases eE:q<Z
   ·have dq:=dT (by omega:q<Z)
    have bd:q<es.length:=by rw [b8.out];exact eE
    have h3:kd=3:=by
     rcases a3.2 with h|h
     ·exact h.1
     have h4:es=[]:=h.2.1
     rw [h4] at bd
     simp at bd
    subst h3
    have cz:=fb
    have cU:=Hd (aA aq.out bZ.out.bel)
    obtain ⟨be,oe,el,cI,d9,eb⟩:=HE.out.es (k:=q) bd
    have fc:=Hd el
    have c0:=(cU.out.cell (p:=⟨be,oe+q * 2,none⟩) cI).trans d9
    have c1:=(cU.out.cell (p:=⟨be,oe+q * 2+1,none⟩) cI).trans eb
    have eN:=aK cU.out cI
    have a4:=eY.out _ (List.getElem_mem bd)
    rw [show es[q]=es[q]?.getD LeT.zero by rw [List.getElem?_eq_getElem bd];rfl] at a4
    have cB:=rA d x k D0 bd
    have bj:=rY (d:=d) HF.out.pack.net bC k es q (by omega)
    have gj:16 * k+4 * q<=1100:=by omega
    clear el d9 eb bd
    obtain rfl:=fc.out
    generalize es[q]?.getD LeT.zero=e at *
    obtain ⟨a,b⟩:=e
    simp only at c0 c1
    obtain ⟨Dq,dP⟩:∃D,lesTo d x k es D0 q=D:=⟨_,rfl⟩
    rw [dP] at cB bj bZ
    have cP:=Hd cB
    clear cB dP
    obtain ⟨f7,gn⟩:=ib (by omega:q<Z)
    have bG:Hid (aJ W9 (wr.alloc (.cells #[.int .i64 a,.int .i64 b] 94)) [.blk V #[.slice (some ⟨G,0,none⟩) ln ln,.slice (some ⟨u,0,none⟩) sn sn] 52,.blk G (Q) 26,.cels ((Dq.luts).map aG) (Q).toList,.blk u (I) 26,.cels ((Dq.seqs).map aG) (I).toList,.blk gi #[.int .i64 (k:Int)] 3,.blk gk #[.int .i64 (3),.int .i64 (it),.slice (some ⟨be,oe,none⟩) Z ec] 89,.blk wr.heap.size #[.int .i64 (a),.int .i64 (b)] 94]):=Hd (bZ.out.pushBlk _ _)
    obtain ⟨ge,cj⟩:∃g,wr.heap.size=g:=⟨_,rfl⟩
    go_upto_region 22 with fail
    rw [cj] at bG
    (try rw [cj])
    have fi:=Hd cj
    clear cj c0 c1 eN
    generalize wr.alloc (.cells #[.int .i64 a,.int .i64 b] 94)=WE at *
    have bm:Hid (aJ W9 WE [.blk V #[.slice (some ⟨G,0,none⟩) ln ln,.slice (some ⟨u,0,none⟩) sn sn] 52,.blk G (Q) 26,.cels ((Dq.luts).map aG) (Q).toList,.blk u (I) 26,.cels ((Dq.seqs).map aG) (I).toList,.blk gi #[.int .i64 (k:Int)] 3,.blk gk #[.int .i64 (3),.int .i64 (it),.slice (some ⟨be,oe,none⟩) Z ec] 89,.blk ge #[.int .i64 (a),.int .i64 (b)] 94]):=bG
    clear bG bZ fi
    by_cases ha:0<=a
    ·obtain ⟨m,hm⟩:∃m:Nat,a=(m:Int):=⟨a.toNat,by omega⟩
     subst hm
     have bP:m<x.net.luts.length:=by have h1:(m:Int)<(x.net.luts.length:Int):=a4.lut.2;omega
     have gp:m<ln:=by rw [←cq.out];exact bP
     obtain ⟨gt,ot,IA,im,ic,dz,eg,t0,_,rI⟩:=H1.out.net.lt.lut' (k:=m) bP
     have ay:=Hd rI.ints
     have bv:im<=4:=by rw [←ay.out.1];exact (HF.out.pack.net.luts m bP).1
     have eQ:=Hd dz
     have dM:Hid (∀v,Below w.heap.size w v→v.cell? ⟨gt,ot+m * 2,none⟩=some (.slice IA im ic)):=fun v hv=>(hv.cell (p:=⟨gt,ot+m * 2,none⟩) eg).trans t0
     clear dz t0 rI
     obtain rfl:=eQ.out
     have da:decide ((m:Int)≥0)=true:=by simp
     obtain ⟨ga,gG⟩:=ib (by omega:m<ln)
     have t0:=dM.out _ (aA aq.out bm.out.bel)
     have eO:=aK (aA aq.out bm.out.bel) eg
     obtain ⟨e0,e1,le⟩:=fZ (bm.out.blk 7 rfl).1
     obtain ⟨n0,n1,n2,n3,bs⟩:=bX (aC bm.out.bel a6.out)
     go_wp2_with fail
     clear t0 eO e0 e1 le n0 n1 n2 n3 bs
     go_loopw [104] (fun i wr=>∃(j:Nat) (Q:Array Value),j<=im/\i = .int .i64 (j:Int)/\aJ W9 wr [.blk V #[.slice (some ⟨G,0,none⟩) ln ln,.slice (some ⟨u,0,none⟩) sn sn] 52,.blk G (Q) 26,.cels ((dV Dq.luts m (lutTo d x k m j)).map aG) (Q).toList,.blk u (I) 26,.cels ((Dq.seqs).map aG) (I).toList,.blk gi #[.int .i64 (k:Int)] 3,.blk gk #[.int .i64 (3),.int .i64 (it),.slice (some ⟨be,oe,none⟩) Z ec] 89,.blk ge #[.int .i64 ((m:Int)),.int .i64 (b)] 94]) (fun i _=>im - (intOf i).toNat)
     ·exact ⟨0,Q,by omega,rfl,by rw [show lutTo d x k m 0=[] from rfl,qW];exact bm.out⟩
     obtain ⟨j,Q,hj,rfl,hs⟩:=hrel
     have HS:=Hd hs
     clear hs
     have ar:=Hd (aA aq.out HS.out.bel)
     obtain ⟨e0,e1,le⟩:=fZ (HS.out.blk 7 rfl).1
     by_cases br:j<im
     ·have dj:=dT (by omega:j<im)
      have au:m<(dV Dq.luts m (lutTo d x k m j)).length:=by rw [jg,bj.ln];exact bP
      have bK:(lutTo d x k m j).length<=4:=by unfold lutTo;rw [List.length_map,List.length_take];omega
      have bf:((dV Dq.luts m (lutTo d x k m j))[m]?.getD []).length<=5000:=by
       have h1:=oV bj.luts m (ys:=lutTo d x k m j) bK m
       omega
      have er:j<(x.net.luts[m]?.getD Lt.zero).ins.length:=by rw [ay.out.1];exact br
      obtain ⟨bi,oi,aR,aZ,aY⟩:=ay.out.2 (by omega)
      have aU:dV Dq.luts m (lutTo d x k m (j+1))=(dV Dq.luts m (lutTo d x k m j)).set m ((dV Dq.luts m (lutTo d x k m j))[m]?.getD []++[inpD d x k ((x.net.luts[m]?.getD Lt.zero).ins[j]?.getD 0)]):=by rw [uY d x k m er,←pR (by rw [bj.ln];exact bP)]
      have aS:=aY j br
      obtain ⟨nd,bk⟩:∃y,(x.net.luts[m]?.getD Lt.zero).ins[j]?.getD 0=y:=⟨_,rfl⟩
      rw [bk] at aS aU
      have ci:=(ar.out.cell (p:=⟨bi,oi+j,none⟩) aZ).trans aS
      have cl:=aK ar.out aZ
      have bT:=Hd aR
      obtain ⟨Y,hY⟩:∃Y,inpD d x k nd=Y:=⟨_,rfl⟩
      rw [hY] at aU
      obtain ⟨c4,aH⟩:=hd2 hY aU
      clear aU hY bk er bK aS aY aR
      obtain rfl:=bT.out
      generalize eZ:dV Dq.luts m (lutTo d x k m j)=LQ at *
      have bO:=aH
      have dO:Hid (aJ W9 wr [.blk V #[.slice (some ⟨G,0,none⟩) ln ln,.slice (some ⟨u,0,none⟩) sn sn] 52,.blk G (Q) 26,.cels ((LQ).map aG) (Q).toList,.blk u (I) 26,.cels ((Dq.seqs).map aG) (I).toList,.blk gi #[.int .i64 (k:Int)] 3,.blk gk #[.int .i64 (3),.int .i64 (it),.slice (some ⟨be,oe,none⟩) Z ec] 89,.blk ge #[.int .i64 ((m:Int)),.int .i64 (b)] 94]):=HS
      clear eZ aH HS
      have HS:=dO
      clear dO
      obtain ⟨j0,j1⟩:=ib (by omega:j<im)
      have cE:=Hd (fun (v:World) (p1 p2 p3 p4:Pc) (r:List Pc) (h:aJ W9 v (.blk V #[.slice (some ⟨G,0,none⟩) ln ln,.slice (some ⟨u,0,none⟩) sn sn] 52 :: p1 :: p2 :: p3 :: p4 :: .blk gi #[.int .i64 (k:Int)] 3 :: .blk gk #[.int .i64 (3),.int .i64 (it),.slice (some ⟨be,oe,none⟩) Z ec] 89 :: r)) (nd:Int)=>xF d x _ _ _ sn sc ln lc on oc k it es (some ⟨be,oe,none⟩) Z ec nd gm nm g6 gk g7 gi v (H1.out.net.below (aA aq.out h.bel)) HF.out bQ cz.out (HE.out.below (aA aq.out h.bel)) (aC h.bel a6.out) (h.blk 6 rfl).1 (aC h.bel c3.out) (h.blk 5 rfl).1 (cD.out.below h.bel))
      obtain ⟨B,nb,cb,aT,az,H⟩:=HS.out.rowAt 2 m rfl au
      obtain ⟨aQ,ea⟩:=hd2 aT az
      have ef:nb<=5000:=by rw [←az];exact bf
      have HT:Hid (aJ W9 wr.drew [.blk V #[.slice (some ⟨G,0,none⟩) ln ln,.slice (some ⟨u,0,none⟩) sn sn] 52,.blk G (Q) 26,.cels (((LQ).map aG).set m (.int 0)) ((Q).toList.set m (.int .i64 0)),.blk u (I) 26,.cels ((Dq.seqs).map aG) (I).toList,.blk gi #[.int .i64 (k:Int)] 3,.blk gk #[.int .i64 (3),.int .i64 (it),.slice (some ⟨be,oe,none⟩) Z ec] 89,.blk ge #[.int .i64 ((m:Int)),.int .i64 (b)] 94,.cel (aG (LQ[m]?.getD [])) (.slice B nb cb)]):=Hd H.drew
      clear H aT az
      have U:Hid (∀(v:World) (p2 p3 p4:Pc) (r:List Pc),aJ W9 v (.blk V #[.slice (some ⟨G,0,none⟩) ln ln,.slice (some ⟨u,0,none⟩) sn sn] 52 :: .blk G (Q) 26 :: p2 :: p3 :: p4 :: .blk gi #[.int .i64 (k:Int)] 3 :: .blk gk #[.int .i64 (3),.int .i64 (it),.slice (some ⟨be,oe,none⟩) Z ec] 89 :: .blk ge #[.int .i64 ((m:Int)),.int .i64 (b)] 94 ::  r)→(v.cell? ⟨V,0,none⟩=some (.slice (some ⟨G,0,none⟩) ln ln)/\v.cell? ⟨V,1,none⟩=some (.slice (some ⟨u,0,none⟩) sn sn)/\v.cell? ⟨ge,0,none⟩=some (.int .i64 (m:Int))/\v.cell? ⟨G,m,none⟩=some (.slice B nb cb))):=Hd fun v p2 p3 p4 r h=>⟨aF (k:=0) (h.blk 0 rfl).1 rfl,aF (k:=1) (h.blk 0 rfl).1 rfl,aF (k:=0) (h.blk 7 rfl).1 rfl,aF (k:=m) (h.blk 1 rfl).1 aQ.out⟩
      go_upto_region 26 with fail
      refine wp_region_noPanic ?_
      refine jD 16 (fun w'=>w'.cell? ⟨V,0,none⟩=some (.slice (some ⟨G,0,none⟩) ln ln)/\w'.cell? ⟨V,1,none⟩=some (.slice (some ⟨u,0,none⟩) sn sn)/\w'.cell? ⟨ge,0,none⟩=some (.int .i64 (m:Int))/\w'.cell? ⟨G,m,none⟩=some (.slice B nb cb)) (U.out _ _ _ _ _ HT.out) (fun H R=>?_)
      refine onT H 0 opA R ?_
      refine onT H 1 (opB opA) R ?_
      refine onT H 2 (opB (opB opA)) R ?_
      refine onT H 3 (opB (opB (opB opA))) R ?_
      refine onT H 4 (opC opA) R ?_
      refine onT H 5 (opC (opB opA)) R ?_
      refine onT H 6 (opC (opB (opB opA))) R ?_
      refine onT H 7 (opC (opB (opB (opB opA)))) R ?_
      refine onT H 8 (opC (opC opA)) R ?_
      refine onT H 9 (opC (opC (opB opA))) R ?_
      refine onT H 10 (opC (opC (opB (opB opA)))) R ?_
      refine onT H 11 (opC (opC (opB (opB (opB opA))))) R ?_
      refine lD H 12 (opC (opC (opC opA))) (fun K hK=>?_)
      go_simp
      go_at_call 58
      with_reducible refine (cE.out _ _ _ _ _ _ HT.out _).mono ?_
      rw [c4.out]
      rintro _ w7 ⟨rfl,b7⟩
      have aO:=Hd (HT.out.below b7)
      clear b7
      refine hK.out _ _ (U.out _ _ _ _ _ aO.out) (fun R=>?_)
      clear hK K
      try simp only [Act.put,List.setIfInBounds_toArray,List.set_cons_zero,List.set_cons_succ]
      have HA:Hid (aJ W9 (w7.alloc (.cells #[.int .i64 (Y)] 3)) [.blk V #[.slice (some ⟨G,0,none⟩) ln ln,.slice (some ⟨u,0,none⟩) sn sn] 52,.blk G (Q) 26,.cels (((LQ).map aG).set m (.int 0)) ((Q).toList.set m (.int .i64 0)),.blk u (I) 26,.cels ((Dq.seqs).map aG) (I).toList,.blk gi #[.int .i64 (k:Int)] 3,.blk gk #[.int .i64 (3),.int .i64 (it),.slice (some ⟨be,oe,none⟩) Z ec] 89,.blk ge #[.int .i64 ((m:Int)),.int .i64 (b)] 94,.cel (aG (LQ[m]?.getD [])) (.slice B nb cb)]):=Hd (aO.out.alloc _)
      refine lD H 13 (opC (opC (opC (opB opA)))) (fun K hK=>?_)
      go_simp
      refine hK.out _ _ (U.out _ _ _ _ _ HA.out) (fun R=>?_)
      clear hK K
      try simp only [Act.put,List.setIfInBounds_toArray,List.set_cons_zero,List.set_cons_succ]
      refine lD H 14 (opC (opC (opC (opB (opB opA))))) (fun K hK=>?_)
      refine gu rfl _ _ (by rfl) _ HA.out 8 B nb cb (LQ[m]?.getD []) Y _ (0,0) rfl (by rfl) (by rfl) (aI _ _) (by omega) ?_
      intro g8 J w8 S8 _
      have ao:Hid (aJ W9 w8 [.blk V #[.slice (some ⟨G,0,none⟩) ln ln,.slice (some ⟨u,0,none⟩) sn sn] 52,.blk G (Q) 26,.cels (((LQ).map aG).set m (.int 0)) ((Q).toList.set m (.int .i64 0)),.blk u (I) 26,.cels ((Dq.seqs).map aG) (I).toList,.blk gi #[.int .i64 (k:Int)] 3,.blk gk #[.int .i64 (3),.int .i64 (it),.slice (some ⟨be,oe,none⟩) Z ec] 89,.blk ge #[.int .i64 ((m:Int)),.int .i64 (b)] 94,.cel (aG (LQ[m]?.getD []++[Y])) (.slice (some ⟨g8,0,none⟩) (nb+1) J)]):=Hd S8
      clear S8
      refine hK.out _ _ (U.out _ _ _ _ _ ao.out) (fun R=>?_)
      clear hK K
      try simp only [Act.put,List.setIfInBounds_toArray,List.set_cons_zero,List.set_cons_succ]
      have c8:=aF (k:=m) (ao.out.blk 1 rfl).1 aQ.out
      have f8:=aW (ao.out.blk 1 rfl).1 m
      have q8:=aB (ao.out.blk 1 rfl).1
      refine onT H 15 (opC (opC (opC (opB (opB (opB opA)))))) R ?_
      refine uJ H 16 (opD opA) ?_
      go_wp2_with fail
      refine NoPanic.normal ?_
      have a9:Hid (aJ W9 (w8.setCell ⟨G,m,none⟩ (.slice (some ⟨g8,0,none⟩) (nb+1) J)) [.blk V #[.slice (some ⟨G,0,none⟩) ln ln,.slice (some ⟨u,0,none⟩) sn sn] 52,.blk G ((Q).setIfInBounds m (.slice (some ⟨g8,0,none⟩) (nb+1) J)) 26,.cels (((LQ).set m (LQ[m]?.getD []++[Y])).map aG) ((Q).setIfInBounds m (.slice (some ⟨g8,0,none⟩) (nb+1) J)).toList,.blk u (I) 26,.cels ((Dq.seqs).map aG) (I).toList,.blk gi #[.int .i64 (k:Int)] 3,.blk gk #[.int .i64 (3),.int .i64 (it),.slice (some ⟨be,oe,none⟩) Z ec] 89,.blk ge #[.int .i64 ((m:Int)),.int .i64 (b)] 94]):=Hd (((ao.out.put 1 rfl m (.slice (some ⟨g8,0,none⟩) (nb+1) J)).rowBack 2 8 m (by decide) rfl au rfl).sub (qs:=[.blk V #[.slice (some ⟨G,0,none⟩) ln ln,.slice (some ⟨u,0,none⟩) sn sn] 52,.blk G ((Q).setIfInBounds m (.slice (some ⟨g8,0,none⟩) (nb+1) J)) 26,.cels (((LQ).set m (LQ[m]?.getD []++[Y])).map aG) ((Q).setIfInBounds m (.slice (some ⟨g8,0,none⟩) (nb+1) J)).toList,.blk u (I) 26,.cels ((Dq.seqs).map aG) (I).toList,.blk gi #[.int .i64 (k:Int)] 3,.blk gk #[.int .i64 (3),.int .i64 (it),.slice (some ⟨be,oe,none⟩) Z ec] 89,.blk ge #[.int .i64 ((m:Int)),.int .i64 (b)] 94]) (List.sublist_append_left _ [_]))
      go_wp2_with fail
      go_roundw
      ·exact ⟨j+1,_,by omega,by go_num,by rw [bO.out];exact a9.out⟩
      simp [intOf];omega
     have ek:j=im:=by omega
     have dj:=dF (by omega:im<=j)
     have fp:Hid (lutTo d x k m j=lutW d x k m):=wS d x k m (by rw [ay.out.1,ek])
     rw [fp.out] at HS
     clear ek
     by_cases hb:0<=b
     ·have db:decide (b≥0)=true:=decide_eq_true hb
      obtain ⟨f,hf⟩:∃f:Nat,b=(f:Int):=⟨b.toNat,by omega⟩
      subst hf
      have a5:f<x.net.seqs.length:=by have h1:(f:Int)<(x.net.seqs.length:Int):=a4.ff.2;omega
      have eM:f<sn:=by rw [←bw.out];exact a5
      have au:f<Dq.seqs.length:=by rw [bj.sn];exact a5
      have aV:Hid (lesTo d x k es D0 (q+1)=⟨dV Dq.luts m (lutW d x k m),Dq.seqs.set f [0]⟩):=by
       show _=_
       rw [cP.out]
       simp [leS,ffW]
      have bI:I[f]?=some (I[f]'(by rw [HS.out.rowsN 4 rfl];exact au)):=Array.getElem?_eq_getElem _
      have cH:=aF (k:=f) (HS.out.blk 3 rfl).1 bI
      have fH:=aW (HS.out.blk 3 rfl).1 f
      have lH:=aB (HS.out.blk 3 rfl).1
      obtain ⟨eX,eU⟩:=ib (by omega:f<sn)
      obtain ⟨o0,o1,lo⟩:=fZ (HS.out.blk 0 rfl).1
      have dS:=Hd (HS.out.pushOwn (aD (Below.refl _ _) (.cells #[.int .i64 0] 3)) (Own.made (cur:=#[.int .i64 (0)]) (aI wr _) (Nat.le_refl _) (by unfold maxLen;simp) rfl rfl:Own wr.heap.size (wr.alloc (.cells #[.int .i64 (0)] 3)) (some ⟨wr.heap.size,0,none⟩) 1 1 [0]))
      have cR:=dS.out.put 3 rfl f (.slice (some ⟨wr.heap.size,0,none⟩) 1 1)
      rw [World.setCell_alloc_past _ _ _ _ lH] at cR
      have d4:=Hd cR
      have eC:Hid (aJ W9 ((wr.setCell ⟨u,f,none⟩ (.slice (some ⟨wr.heap.size,0,none⟩) 1 1)).alloc (.cells #[.int .i64 0] 3)) [.blk V #[.slice (some ⟨G,0,none⟩) ln ln,.slice (some ⟨u,0,none⟩) sn sn] 52,.blk G (Q) 26,.cels ((dV Dq.luts m (lutW d x k m)).map aG) (Q).toList,.blk u (I.setIfInBounds f (.slice (some ⟨wr.heap.size,0,none⟩) 1 1)) 26,.cels ((Dq.seqs.set f [0]).map aG) (I.setIfInBounds f (.slice (some ⟨wr.heap.size,0,none⟩) 1 1)).toList,.blk gi #[.int .i64 (k:Int)] 3,.blk gk #[.int .i64 (3),.int .i64 (it),.slice (some ⟨be,oe,none⟩) Z ec] 89]):=Hd ((d4.out.rowPut 4 8 f (by decide) (L:=Dq.seqs) (vs:=I) (r:=[0]) (v := .slice (some ⟨wr.heap.size,0,none⟩) 1 1) rfl au rfl).sub (List.sublist_append_left _ [_,_]))
      clear bI dS d4 cR
      go_wp2_with fail
      go_roundw
      ·exact ⟨q+1,_,_,by omega,by go_num,by rw [aV.out];exact eC.out⟩
      simp [intOf];omega
     have db:decide (b≥0)=false:=decide_eq_false hb
     have aV:Hid (lesTo d x k es D0 (q+1)=⟨dV Dq.luts m (lutW d x k m),Dq.seqs⟩):=by
      show _=_
      rw [cP.out]
      unfold leS
      rw [if_neg hb]
      simp
     clear hb
     go_wp2_with fail
     go_roundw
     ·exact ⟨q+1,_,_,by omega,by go_num,by rw [aV.out];exact HS.out.sub (List.sublist_append_left _ [_])⟩
     simp [intOf];omega
    have da:decide (a≥0)=false:=by simpa using ha
    have hb:0<=b:=by have h1:=a4.lut.1;have h2:=a4.ff.1;have h3:=a4.one;change -1<=a at h1;change -1<=b at h2;change ¬(a=-1/\b=-1) at h3;omega
    have db:decide (b≥0)=true:=decide_eq_true hb
    obtain ⟨f,hf⟩:∃f:Nat,b=(f:Int):=⟨b.toNat,by omega⟩
    subst hf
    have a5:f<x.net.seqs.length:=by have h1:(f:Int)<(x.net.seqs.length:Int):=a4.ff.2;omega
    have eM:f<sn:=by rw [←bw.out];exact a5
    have au:f<Dq.seqs.length:=by rw [bj.sn];exact a5
    obtain ⟨sb,so,IA,im,ic,bR,bY,_,_,d2,rI⟩:=H1.out.net.sq.sq' (k:=f) a5
    have ay:=Hd rI.ints
    have bv:1<=im:=by
     rw [←ay.out.1]
     rcases (HF.out.pack.net.seqs f a5).1 with h|h
     ·rw [h.2.2];exact Nat.le_refl _
     rw [h.2.2];omega
    have cK:=Hd bR
    have dJ:Hid (∀v,Below w.heap.size w v→v.cell? ⟨sb,so+f * 3+2,none⟩=some (.slice IA im ic)):=fun v hv=>(hv.cell (p:=⟨sb,so+f * 3+2,none⟩) bY).trans d2
    clear bR d2 rI
    obtain rfl:=cK.out
    have HS:=bm
    obtain ⟨wr,rfl⟩:∃y,y=WE:=⟨WE,rfl⟩
    have ar:=Hd (aA aq.out HS.out.bel)
    obtain ⟨bi,oi,aR,aZ,aY⟩:=ay.out.2 bv
    have aS:=aY 0 (by omega)
    rw [Nat.add_zero] at aS
    obtain ⟨nd,bk⟩:∃y,(x.net.seqs[f]?.getD Sq.zero).ins[0]?.getD 0=y:=⟨_,rfl⟩
    rw [bk] at aS
    have ep:Hid (∀v,Below w.heap.size w v→v.cell? ⟨bi,oi,none⟩=some (.int .i64 nd)):=fun v hv=>(hv.cell (p:=⟨bi,oi,none⟩) aZ).trans aS
    have bT:=Hd aR
    obtain ⟨Y,hY⟩:∃Y,inpD d x k nd=Y:=⟨_,rfl⟩
    have c4:=Hd hY
    have aV:Hid (lesTo d x k es D0 (q+1)=⟨Dq.luts,Dq.seqs.set f [Y]⟩):=by
     show _=_
     rw [cP.out]
     unfold leS ffW
     rw [if_neg (show ¬0<=(LeT.mk a (f:Int)).lut by show ¬0<=a;omega),if_pos (show 0<=(LeT.mk a (f:Int)).ff from hb),if_neg (show ¬0<=(LeT.mk a (f:Int)).lut by show ¬0<=a;omega)]
     simp only [Int.toNat_natCast]
     rw [bk,hY]
    clear aR aY aS bk hY
    obtain rfl:=bT.out
    have co:=dJ
    have bI:I[f]?=some (I[f]'(by rw [HS.out.rowsN 4 rfl];exact au)):=Array.getElem?_eq_getElem _
    have fk:=Hd bI
    obtain ⟨eX,eU⟩:=ib (by omega:f<sn)
    have gf:(0:Int)<(im:Int):=by omega
    have fT:0<im:=bv
    clear bI
    obtain ⟨e0,e1,le⟩:=fZ (HS.out.blk 7 rfl).1
    obtain ⟨o0,o1,lo⟩:=fZ (HS.out.blk 0 rfl).1
    obtain ⟨n0,n1,n2,n3,bs⟩:=bX (aC HS.out.bel a6.out)
    have d2:=co.out _ ar.out
    have du:=aK ar.out bY
    have ci:=ep.out _ ar.out
    have cl:=aK ar.out aZ
    have cE:=Hd (fun (v:World) (p1 p2 p3 p4:Pc) (r:List Pc) (h:aJ W9 v (.blk V #[.slice (some ⟨G,0,none⟩) ln ln,.slice (some ⟨u,0,none⟩) sn sn] 52 :: p1 :: p2 :: p3 :: p4 :: .blk gi #[.int .i64 (k:Int)] 3 :: .blk gk #[.int .i64 (3),.int .i64 (it),.slice (some ⟨be,oe,none⟩) Z ec] 89 :: r)) (nd:Int)=>xF d x _ _ _ sn sc ln lc on oc k it es (some ⟨be,oe,none⟩) Z ec nd gm nm g6 gk g7 gi v (H1.out.net.below (aA aq.out h.bel)) HF.out bQ cz.out (HE.out.below (aA aq.out h.bel)) (aC h.bel a6.out) (h.blk 6 rfl).1 (aC h.bel c3.out) (h.blk 5 rfl).1 (cD.out.below h.bel))
    have U:Hid (∀(v:World) (p1 p2 p3 p4:Pc) (r:List Pc),aJ W9 v (.blk V #[.slice (some ⟨G,0,none⟩) ln ln,.slice (some ⟨u,0,none⟩) sn sn] 52 :: p1 :: p2 :: p3 :: p4 :: .blk gi #[.int .i64 (k:Int)] 3 :: .blk gk #[.int .i64 (3),.int .i64 (it),.slice (some ⟨be,oe,none⟩) Z ec] 89 :: .blk ge #[.int .i64 (a),.int .i64 ((f:Int))] 94 ::  r)→(v.cell? ⟨V,0,none⟩=some (.slice (some ⟨G,0,none⟩) ln ln)/\v.cell? ⟨V,1,none⟩=some (.slice (some ⟨u,0,none⟩) sn sn)/\v.cell? ⟨g6,1,none⟩=some (.slice (some ⟨sb,so,none⟩) sn sc)/\v.cell? ⟨sb,so+f * 3+2,none⟩=some (.slice (some ⟨bi,oi,none⟩) im ic)/\v.cell? ⟨bi,oi,none⟩=some (.int .i64 nd)/\v.cell? ⟨ge,1,none⟩=some (.int .i64 (f:Int)))):=Hd fun v p1 p2 p3 p4 r h=>⟨aF (k:=0) (h.blk 0 rfl).1 rfl,aF (k:=1) (h.blk 0 rfl).1 rfl,aF (k:=1) (aC h.bel a6.out) rfl,co.out _ (aA aq.out h.bel),ep.out _ (aA aq.out h.bel),aF (k:=1) (h.blk 7 rfl).1 rfl⟩
    have HT:Hid (aJ W9 wr.drew [.blk V #[.slice (some ⟨G,0,none⟩) ln ln,.slice (some ⟨u,0,none⟩) sn sn] 52,.blk G (Q) 26,.cels ((Dq.luts).map aG) (Q).toList,.blk u (I) 26,.cels ((Dq.seqs).map aG) (I).toList,.blk gi #[.int .i64 (k:Int)] 3,.blk gk #[.int .i64 (3),.int .i64 (it),.slice (some ⟨be,oe,none⟩) Z ec] 89,.blk ge #[.int .i64 (a),.int .i64 ((f:Int))] 94]):=Hd HS.out.drew
    go_upto_region 31 with fail
    refine wp_region_noPanic ?_
    refine jD 17 (fun w'=>w'.cell? ⟨V,0,none⟩=some (.slice (some ⟨G,0,none⟩) ln ln)/\w'.cell? ⟨V,1,none⟩=some (.slice (some ⟨u,0,none⟩) sn sn)/\w'.cell? ⟨g6,1,none⟩=some (.slice (some ⟨sb,so,none⟩) sn sc)/\w'.cell? ⟨sb,so+f * 3+2,none⟩=some (.slice (some ⟨bi,oi,none⟩) im ic)/\w'.cell? ⟨bi,oi,none⟩=some (.int .i64 nd)/\w'.cell? ⟨ge,1,none⟩=some (.int .i64 (f:Int))) (U.out _ _ _ _ _ _ HT.out) (fun H R=>?_)
    refine onT H 0 opA R ?_
    refine onT H 1 (opB opA) R ?_
    refine onT H 2 (opB (opB opA)) R ?_
    refine onT H 3 (opB (opB (opB opA))) R ?_
    refine onT H 4 (opC opA) R ?_
    refine onT H 5 (opC (opB opA)) R ?_
    refine onT H 6 (opC (opB (opB opA))) R ?_
    refine onT H 7 (opC (opB (opB (opB opA)))) R ?_
    refine onT H 8 (opC (opC opA)) R ?_
    refine onT H 9 (opC (opC (opB opA))) R ?_
    refine onT H 10 (opC (opC (opB (opB opA)))) R ?_
    refine onT H 11 (opC (opC (opB (opB (opB opA))))) R ?_
    refine onT H 12 (opC (opC (opC opA))) R ?_
    refine onT H 13 (opC (opC (opC (opB opA)))) R ?_
    refine lD H 14 (opC (opC (opC (opB (opB opA))))) (fun K hK=>?_)
    go_simp
    go_at_call 58
    with_reducible refine (cE.out _ _ _ _ _ _ HT.out _).mono ?_
    rw [c4.out]
    rintro _ w7 ⟨rfl,b7⟩
    have aO:=Hd (HT.out.below b7)
    clear b7
    refine hK.out _ _ (U.out _ _ _ _ _ _ aO.out) (fun R=>?_)
    clear hK K
    try simp only [Act.put,List.setIfInBounds_toArray,List.set_cons_zero,List.set_cons_succ]
    have HA:Hid (aJ W9 (w7.alloc (.cells #[.int .i64 Y] 3)) [.blk V #[.slice (some ⟨G,0,none⟩) ln ln,.slice (some ⟨u,0,none⟩) sn sn] 52,.blk G (Q) 26,.cels ((Dq.luts).map aG) (Q).toList,.blk u (I) 26,.cels ((Dq.seqs).map aG) (I).toList,.blk gi #[.int .i64 (k:Int)] 3,.blk gk #[.int .i64 (3),.int .i64 (it),.slice (some ⟨be,oe,none⟩) Z ec] 89,.blk ge #[.int .i64 (a),.int .i64 ((f:Int))] 94]):=Hd (aO.out.alloc _)
    refine lD H 15 (opC (opC (opC (opB (opB (opB opA)))))) (fun K hK=>?_)
    go_simp
    refine hK.out _ _ (U.out _ _ _ _ _ _ HA.out) (fun R=>?_)
    clear hK K
    try simp only [Act.put,List.setIfInBounds_toArray,List.set_cons_zero,List.set_cons_succ]
    have gB:=aF (k:=f) (aO.out.blk 3 rfl).1 fk.out
    have gs:=aW (aO.out.blk 3 rfl).1 f
    have fu:=aB (aO.out.blk 3 rfl).1
    refine onT H 16 (opD opA) R ?_
    refine uJ H 17 (opD (opB opA)) ?_
    go_wp2_with fail
    refine NoPanic.normal ?_
    have a9:Hid (aJ W9 ((w7.setCell ⟨u,f,none⟩ (.slice (some ⟨w7.heap.size,0,none⟩) 1 1)).alloc (.cells #[.int .i64 Y] 3)) [.blk V #[.slice (some ⟨G,0,none⟩) ln ln,.slice (some ⟨u,0,none⟩) sn sn] 52,.blk G (Q) 26,.cels ((Dq.luts).map aG) (Q).toList,.blk u (I.setIfInBounds f (.slice (some ⟨w7.heap.size,0,none⟩) 1 1)) 26,.cels ((Dq.seqs.set f [Y]).map aG) (I.setIfInBounds f (.slice (some ⟨w7.heap.size,0,none⟩) 1 1)).toList,.blk gi #[.int .i64 (k:Int)] 3,.blk gk #[.int .i64 (3),.int .i64 (it),.slice (some ⟨be,oe,none⟩) Z ec] 89]):=Hd (by have h9:=(aO.out.pushOwn (aD (Below.refl _ _) (.cells #[.int .i64 Y] 3)) (Own.made (cur:=#[.int .i64 Y]) (aI w7 _) (Nat.le_refl _) (by unfold maxLen;simp) rfl rfl:Own w7.heap.size (w7.alloc (.cells #[.int .i64 Y] 3)) (some ⟨w7.heap.size,0,none⟩) 1 1 [Y])).put 3 rfl f (.slice (some ⟨w7.heap.size,0,none⟩) 1 1);rw [World.setCell_alloc_past _ _ _ _ fu] at h9;exact (h9.rowPut 4 8 f (by decide) (L:=Dq.seqs) (vs:=I) (r:=[Y]) (v := .slice (some ⟨w7.heap.size,0,none⟩) 1 1) rfl au rfl).sub (List.sublist_append_left _ [_,_]))
    go_wp2_with fail
    go_roundw
    ·exact ⟨q+1,_,_,by omega,by go_num,by rw [aV.out];exact a9.out⟩
    simp [intOf];omega
   have d6:q=Z:=by omega
   have dq:=dF (by omega:Z<=q)
   have bF:Hid (delTo d x (k+1)=lesTo d x k es D0 q):=by show _=_;rw [ck.out,d6,←b8.out]
   clear d6
   go_wp2_with fail
   go_roundw
   ·exact ⟨k+1,_,_,by omega,by go_num,by rw [bF.out];exact bZ.out.sub (List.sublist_append_left _ [_,_])⟩
   simp [intOf];omega
  have eh:k=bn:=by omega
  have ft:=dF (by omega:bn<=k)
  have cN:Hid (delTo d x k=delays d x):=by show _=_;unfold delays;rw [eh,b0.out]
  rw [cN.out] at am
  have dD:(delays d x).luts.length=ln:=by have h:=(lW (d:=d) HF.out.pack k (by rw [b0.out];omega)).ln;rw [cN.out] at h;rw [h];exact cq.out
  have d5:(delays d x).seqs.length=sn:=by have h:=(lW (d:=d) HF.out.pack k (by rw [b0.out];omega)).sn;rw [cN.out] at h;rw [h];exact bw.out
  have cV:=am.out.rowsN 2 rfl
  have cX:=am.out.rowsN 4 rfl
  rw [dD] at cV
  rw [d5] at cX
  have dX:=Hd (am.out.fuse 1 2 (by decide) rfl rfl cV (by unfold maxLen;omega))
  have d7:=Hd (dX.out.fuse 3 4 (by decide) rfl rfl cX (by unfold maxLen;omega))
  have fr:Hid (aJ W9 wr [.cel (bg (delays d x).luts) (.slice (some ⟨G,0,none⟩) ln ln),.cel (bg (delays d x).seqs) (.slice (some ⟨u,0,none⟩) sn sn)]):=Hd (d7.out.sub (List.Sublist.cons _ (List.Sublist.cons_cons _ (List.Sublist.cons _ (List.Sublist.cons_cons _ (List.nil_sublist _))))))
  obtain ⟨o0,o1,lo⟩:=fZ (am.out.blk 0 rfl).1
  have hr:=aC am.out.bel dG.out
  obtain ⟨r0,r1⟩:=cs2 hr
  have rf:=fun j=>aW hr j
  have lr:=aB hr
  have cF:=Hd hr
  clear hr eh dD d5 cV cX dX d7
  go_wp2_with fail
  refine bodyPost_ret (v := .tuple #[.agg #[.slice (some ⟨G,0,none⟩) ln ln,.slice (some ⟨u,0,none⟩) sn sn],.bool true]) (lV Tryz.results14 rfl (je (je cF.out (.slice (some ⟨G,0,none⟩) ln ln) rfl) (.slice (some ⟨u,0,none⟩) sn sn) rfl) Tryz.underlying52 (by kernel_rfl)) rfl ⟨_,_,_,_,_,_,by rw [ae HF.out],?_⟩
  have R:delD d x=delays d x:=if_pos HF.out
  rw [R]
  exact fr.out.lowerC aq.out (lo:=gR) (hi:=gR+1) (by have h1:=dE.out;have h2:=dN.out;omega) (by have:=aB dG.out;omega) ((Chg.refl' _ _ _).set (by omega) (by omega) _ |>.set (by omega) (by omega) _)
 rw [bJ hf]
 rintro _ w1 ⟨rfl,b1⟩
 obtain ⟨B1,dw⟩:=hd2 b1 hf
 have hr:=aC b1 aX.out
 obtain ⟨r0,r1⟩:=cs2 hr
 have rf:=fun j=>aW hr j
 have lr:=aB hr
 have cF:=Hd hr
 clear hr b1 hf x0 x1 x2 x3 lx y0 y1 y2 y3 y4 y5 y6 y7 ly
 go_wp2_with fail
 refine bodyPost_ret (v := .tuple #[.agg #[.slice none 0 0,.slice none 0 0],.bool false]) (lV Tryz.results14 rfl (je (je cF.out (.slice none 0 0) rfl) (.slice none 0 0) rfl) Tryz.underlying52 (by kernel_rfl)) rfl ⟨none,0,0,none,0,0,by rw [bJ dw.out],?_⟩
 have R:delD d x=⟨[],[]⟩:=if_neg dw.out
 rw [R]
 have HG:aJ W8 w1 [.cel (bg []) (.slice none 0 0),.cel (bg []) (.slice none 0 0)]:=((aJ.nil B1.out).pushNil 26 1).pushNil 26 1
 exact HG.lowerC aw.out (lo:=gR) (hi:=gR+1) (by have h1:=dE.out;have h2:=dN.out;omega) (by have:=aB aX.out;omega) ((Chg.refl' _ _ _).set (by omega) (by omega) _ |>.set (by omega) (by omega) _)
end Go.Proofs.YtofihjoanjkdmaaGreat
