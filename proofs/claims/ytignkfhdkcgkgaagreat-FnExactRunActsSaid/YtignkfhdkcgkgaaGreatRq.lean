/- The emulator of the program: what emulatorOf makes. -/
import Derived.Test.YtignkfhdkcgkgaaGreatDrvS
namespace Go.Proofs.YtignkfhdkcgkgaaGreat
set_option maxHeartbeats 4000000
set_option maxRecDepth 100000
open Go.RowKit
theorem ER:(Tryz.prog.info? 4).map (fun i=>(i.zero,i.size,i.bytes))=some (some (.bool false),1,1):=by kernel_rfl
def tY (xs:List Bool):Array Value:=(xs.map Value.bool).toArray
theorem vP {xs:List Bool} {k:Nat} (h:k<xs.length):(tY xs)[k]?=some (.bool (xs[k]?.getD false)):=by simp [tY,h]
theorem FI (xs:List Bool) (k:Nat) (v:Bool):(tY xs).setIfInBounds k (.bool v)=tY (xs.set k v):=by
 apply Array.ext'
 simp [tY,List.map_set]
theorem ES (n:Nat):madeCells #[Value.bool false] n=tY (List.replicate n false):=by
 apply Array.ext'
 rw [toList_madeCells_one]
 simp [tY]
def vQ (w:World) (A:Option Addr) (n:Nat) (bs:List Bool):Prop :=
 bs.length=n/\(0<n→∃b o,A=some ⟨b,o,none⟩/\b<w.heap.size/\∀j,j<n→w.cell? ⟨b,o+j,none⟩=some (.bool (bs[j]?.getD false)))
theorem vQ.below {w w':World} {A:Option Addr} {n:Nat} {bs:List Bool} (h:vQ w A n bs) (hb:Below w.heap.size w w'):vQ w' A n bs:=by
 refine ⟨h.1,fun hn=>?_⟩
 obtain ⟨b,o,e,hlt,hc⟩:=h.2 hn
 exact ⟨b,o,e,eZ hb hlt,fun j hj=>(hb.cell (p:=⟨b,o+j,none⟩) hlt).trans (hc j hj)⟩
theorem vQ.made {w:World} {g n:Nat} {bs:List Bool} (hh:w.heap[g]?=some (.cells (tY bs) 4 (0,0))) (hl:bs.length=n):vQ w (some ⟨g,0,none⟩) n bs:=by
 refine ⟨hl,fun _=>⟨g,0,rfl,aX hh,fun j hj=>?_⟩⟩
 rw [Nat.zero_add]
 exact aC hh (vP (by omega))
theorem zh {w:World} {g n:Nat} {xs:List Int} (hh:w.heap[g]?=some (.cells (arr xs) 3 (0,0))) (hl:xs.length=n):bH w (some ⟨g,0,none⟩) n xs:=by
 refine ⟨hl,fun _=>⟨g,0,rfl,aX hh,fun j hj=>?_⟩⟩
 rw [Nat.zero_add]
 exact aC hh (fC (by omega))
theorem sH {α:Type} {l:List α} {N k:Nat} {z b:α} (hl:l.length=k) (hk:k<N):(l++List.replicate (N - k) z).set k b=l++[b]++List.replicate (N - (k+1)) z:=by
 rw [List.set_append,if_neg (by omega),hl,Nat.sub_self,show N - k=(N - (k+1))+1 by omega,List.replicate_succ,List.set_cons_zero,List.append_assoc]
 rfl
theorem FJ {α:Type} {l:List α} {N k:Nat} {z a b:α} (hl:l.length=k) (hk:k<N):((l++List.replicate (N - k) z).set k a).set k b=l++[b]++List.replicate (N - (k+1)) z:=by
 rw [List.set_set,sH hl hk]
def um (d:Dev) (k:Nat):List Bool:=(List.range k).map fun (j:Nat)=>bS d (j:Int)
theorem ET (d:Dev) (k:Nat):um d (k+1)=um d k++[bS d (k:Int)]:=by simp [um,List.range_succ]
theorem jL (d:Dev) (k:Nat):(um d k).length=k:=by simp [um]
abbrev zi (d:Dev) (T E D:Value):Array Value:=#[.int .i64 d.W,.int .i64 d.H,.int .i64 d.T,.int .i64 d.R,T,E,D]
structure uQ (w:World) (g:Nat) (d:Dev) (ts:List au) (TA:Option Addr) (m tc:Nat) (EA DA:Option Addr) (N:Nat):Prop where
 box:w.heap[g]?=some (.cells (zi d (.slice TA m tc) (.slice EA N N) (.slice DA N N)) 121 (0,0))
 tiles:RdC w w.heap.size (lH ts) (.slice TA m tc)
 exist:vQ w EA N (um d N)
 drv:bH w DA N (mR d ts N)
theorem uQ.below {w w':World} {g:Nat} {d:Dev} {ts:List au} {TA:Option Addr} {m tc:Nat} {EA DA:Option Addr} {N:Nat} (h:uQ w g d ts TA m tc EA DA N) (hb:Below w.heap.size w w'):uQ w' g d ts TA m tc EA DA N :=
 ⟨aF hb h.box,h.tiles.below hb,h.exist.below hb,h.drv.below hb⟩
theorem uR {W W':World} {gw g:Nat} {v0 v1 v2 v3 v4 v5 v6:Value} (hb:Below W.heap.size W W') (h1:gw<W.heap.size) (h2:g<W.heap.size)
  (h:W.cell? ⟨gw,0,none⟩=some v0/\W.cell? ⟨gw,1,none⟩=some v1/\W.cell? ⟨gw,2,none⟩=some v2/\W.cell? ⟨gw,3,none⟩=some v3/\W.cell? ⟨g,4,none⟩=some v4/\W.cell? ⟨g,5,none⟩=some v5/\W.cell? ⟨g,6,none⟩=some v6) :
  W'.cell? ⟨gw,0,none⟩=some v0/\W'.cell? ⟨gw,1,none⟩=some v1/\W'.cell? ⟨gw,2,none⟩=some v2/\W'.cell? ⟨gw,3,none⟩=some v3/\W'.cell? ⟨g,4,none⟩=some v4/\W'.cell? ⟨g,5,none⟩=some v5/\W'.cell? ⟨g,6,none⟩=some v6 :=
 ⟨(hb.cell (p:=⟨gw,0,none⟩) h1).trans h.1,(hb.cell (p:=⟨gw,1,none⟩) h1).trans h.2.1,(hb.cell (p:=⟨gw,2,none⟩) h1).trans h.2.2.1,(hb.cell (p:=⟨gw,3,none⟩) h1).trans h.2.2.2.1,
  (hb.cell (p:=⟨g,4,none⟩) h2).trans h.2.2.2.2.1,(hb.cell (p:=⟨g,5,none⟩) h2).trans h.2.2.2.2.2.1,(hb.cell (p:=⟨g,6,none⟩) h2).trans h.2.2.2.2.2.2⟩
theorem GQ {W:World} {gw g:Nat} {v0 v1 v2 v3 v4 v5 v6:Value} (p:Addr) (v:Value) (h1:p.block≠gw) (h2:p.block≠g)
  (h:W.cell? ⟨gw,0,none⟩=some v0/\W.cell? ⟨gw,1,none⟩=some v1/\W.cell? ⟨gw,2,none⟩=some v2/\W.cell? ⟨gw,3,none⟩=some v3/\W.cell? ⟨g,4,none⟩=some v4/\W.cell? ⟨g,5,none⟩=some v5/\W.cell? ⟨g,6,none⟩=some v6) :
  (W.setCell p v).cell? ⟨gw,0,none⟩=some v0/\(W.setCell p v).cell? ⟨gw,1,none⟩=some v1/\(W.setCell p v).cell? ⟨gw,2,none⟩=some v2/\(W.setCell p v).cell? ⟨gw,3,none⟩=some v3/\(W.setCell p v).cell? ⟨g,4,none⟩=some v4/\(W.setCell p v).cell? ⟨g,5,none⟩=some v5/\(W.setCell p v).cell? ⟨g,6,none⟩=some v6 :=
 ⟨dC h.1 h1,dC h.2.1 h1,dC h.2.2.1 h1,dC h.2.2.2.1 h1,dC h.2.2.2.2.1 h2,dC h.2.2.2.2.2.1 h2,dC h.2.2.2.2.2.2 h2⟩
theorem Gx {w2 wr:World} {gw:Nat} {v0 v1 v2 v3 a0 a1 a2 a3 v4 v5 v6:Value} {t:TypeId} (hb:Below w2.heap.size w2 wr) (h1:gw<w2.heap.size)
  (h:w2.cell? ⟨gw,0,none⟩=some v0/\w2.cell? ⟨gw,1,none⟩=some v1/\w2.cell? ⟨gw,2,none⟩=some v2/\w2.cell? ⟨gw,3,none⟩=some v3) {g:Nat} (hg:wr.heap[g]?=some (.cells #[a0,a1,a2,a3,v4,v5,v6] t (0,0))) :
  wr.cell? ⟨gw,0,none⟩=some v0/\wr.cell? ⟨gw,1,none⟩=some v1/\wr.cell? ⟨gw,2,none⟩=some v2/\wr.cell? ⟨gw,3,none⟩=some v3/\wr.cell? ⟨g,4,none⟩=some v4/\wr.cell? ⟨g,5,none⟩=some v5/\wr.cell? ⟨g,6,none⟩=some v6:=by
 obtain ⟨q0,q1,q2,q3⟩:=jO hb h1 h
 exact ⟨q0,q1,q2,q3,aC hg rfl,aC hg rfl,aC hg rfl⟩
theorem fU {w:World} {g:Nat} {o:Obj} (h:w.heap[g]?=some o) {p:Addr} (hp:g≠p.block) (v:Value):(w.setCell p v).heap[g]?=some o:=(Below.heap_setCell w p v g hp).trans h
theorem pU (d:Dev) (A:Option Addr) (m c:Nat) (fs:List (List Int)) (w:World) (hA:dZ w A m fs) (hf:az d fs=true) :
  Calls Tryz.prog 72 #[.agg #[.int .i64 d.W,.int .i64 d.H,.int .i64 d.T,.int .i64 d.R],.slice A m c] w fun e w'=>∃g TA tc EA DA,e = .returned (.pointer (some ⟨g,0,none⟩))/\uQ w' g d (av d fs) TA m tc EA DA (ai d).toNat/\Below w.heap.size w w':=by
 have HB0:=Hd (aB (Below.refl w.heap.size w) (.cells #[.int .i64 d.W,.int .i64 d.H,.int .i64 d.T,.int .i64 d.R] 25))
 have HI:=Hd hA
 have HF:=Hd hf
 have hdv:=(aj hf).1
 have hT:=aY hdv
 have hnb:=cK hdv
 have HD:=Hd hdv
 have HC:=Hd (kJ hf)
 obtain ⟨N,hN⟩:∃N:Nat,ai d=(N:Int):=⟨(ai d).toNat,by omega⟩
 have HNI:Hid (∀k:Nat,k<N→bZ d (k:Int)=true):=by
  intro k hk
  exact iQ.2 ⟨hdv,by omega,by rw [hN];omega⟩
 have HRN:Hid (∀w,Calls Tryz.prog 140 #[.agg #[.int .i64 d.W,.int .i64 d.H,.int .i64 d.T,.int .i64 d.R]] w fun e w'=>e = .returned (.int .i64 (N:Int))/\Below w.heap.size w w'):=fun w=>by have h:=lh d w hdv;rwa [hN] at h
 have hNN:(ai d).toNat=N:=by omega
 rw [hN] at hnb
 rw [hNN]
 have HQ0:=Hd (ww w d)
 clear hA hf hdv hN hNN
 obtain ⟨i0,hi,hz0,hz1,hz2⟩:=info_parts eP
 obtain ⟨j0,hj,hy0,hy1,hy2⟩:=info_parts ER
 have hmkI:=fun W=>bU (P:=Tryz.prog) 27 3 i0 _ Tryz.underlying27 hi hz0 .i64 .i64 N N (Nat.le_refl _) (by rw [hz2];omega) (by omega) W
 have hmkB:=fun W=>bU (P:=Tryz.prog) 119 4 j0 _ Tryz.underlying119 hj hy0 .i64 .i64 N N (Nat.le_refl _) (by rw [hy2];omega) (by omega) W
 rw [hz1,Nat.mul_one,show (Value.int .i64 0).cells=#[Value.int .i64 0] from rfl,iV] at hmkI
 rw [hy1,Nat.mul_one,show (Value.bool false).cells=#[Value.bool false] from rfl,ES] at hmkB
 clear hi hz0 hz1 hz2 hj hy0 hy1 hy2
 go_enter Tryz.func72,Tryz.ntmps72
 go_wp2_with fail
 have hD:=Below.refl (w.alloc (.cells #[.int .i64 d.W,.int .i64 d.H,.int .i64 d.T,.int .i64 d.R] 25)).heap.size (w.alloc (.cells #[.int .i64 d.W,.int .i64 d.H,.int .i64 d.T,.int .i64 d.R] 25))
 go_region_held3 (fun w'=>w'.cell? ⟨w.heap.size,0,none⟩=some (.int .i64 d.W)/\w'.cell? ⟨w.heap.size,1,none⟩=some (.int .i64 d.H)/\w'.cell? ⟨w.heap.size,2,none⟩=some (.int .i64 d.T)/\w'.cell? ⟨w.heap.size,3,none⟩=some (.int .i64 d.R))
  (first|with_reducible exact jO hD (by simp) HQ0.out|with_reducible exact jO hD.drew (by simp) HQ0.out|with_reducible exact jO (aB hD _) (by simp) HQ0.out)
  ((go_at_call 139;(with_reducible refine (pY d A m c fs _ (HI.out.below (aA HB0.out hD.drew)) HF.out).mono ?_);rintro e w2 ⟨TA,tc,rfl,o2,b2⟩;have O2:=Hd o2.rd;have hD2:=aA hD.drew b2;have hs2:=b2.size;clear b2 o2;replace hD:=hD2))
 have hs2':w.heap.size+1<=w2.heap.size:=by simp only [World.size_alloc,World.size_drew] at hs2;omega
 have HB2:=Hd hD
 have G2:=Hd (aL w2 (.cells (zi d (.slice TA m tc) (.slice none 0 0) (.slice none 0 0)) 121))
 obtain ⟨hcc,hff⟩:=aO (aB hD (.cells (zi d (.slice TA m tc) (.slice none 0 0) (.slice none 0 0)) 121))
 clear hs2 hD
 go_wp2_with fail
 refine (HRN.out _).mono ?_
 rintro e w3 ⟨rfl,b3⟩
 have hs3:=b3.size
 simp only [World.size_alloc] at hs3
 have HB3:=Hd (aA (aB HB2.out _) b3)
 have G3:=Hd (aF b3 G2.out)
 have O3:=Hd (O2.out.below (aA (aB (Below.refl _ _) _) b3))
 have hb3:=Hd (aA (aB (Below.refl _ _) _) b3:Below w2.heap.size w2 w3)
 clear b3 hcc hff
 obtain ⟨hcc,hff⟩:=aO HB3.out
 have hgl:w2.heap.size<w3.heap.size:=by omega
 have hwl:w.heap.size<w3.heap.size:=by omega
 have z5:=aC (k:=5) G3.out rfl
 have y5:=aJ G3.out 5
 have hq:=jO HB3.out (by simp) HQ0.out
 have x0:=dC (q:=⟨w2.heap.size,5,none⟩) (v := .slice (some ⟨w3.heap.size,0,none⟩) N N) hq.1 (by simp;omega)
 have x1:=dC (q:=⟨w2.heap.size,5,none⟩) (v := .slice (some ⟨w3.heap.size,0,none⟩) N N) hq.2.1 (by simp;omega)
 have x2:=dC (q:=⟨w2.heap.size,5,none⟩) (v := .slice (some ⟨w3.heap.size,0,none⟩) N N) hq.2.2.1 (by simp;omega)
 have x3:=dC (q:=⟨w2.heap.size,5,none⟩) (v := .slice (some ⟨w3.heap.size,0,none⟩) N N) hq.2.2.2 (by simp;omega)
 clear hcc hff hq
 go_wp2_with fail
 have hs3':Below w2.heap.size w2 (w3.setCell ⟨w2.heap.size,5,none⟩ (.slice (some ⟨w3.heap.size,0,none⟩) N N)):=hb3.out.setCell (p:=⟨w2.heap.size,5,none⟩) (Nat.le_refl _) _
 have hb3s:Below w2.heap.size w2 ((w3.setCell ⟨w2.heap.size,5,none⟩ (.slice (some ⟨w3.heap.size,0,none⟩) N N)).alloc (.cells (tY (List.replicate N false)) 4)):=hs3'.alloc (by simp;omega) _
 have g3s:((w3.setCell ⟨w2.heap.size,5,none⟩ (.slice (some ⟨w3.heap.size,0,none⟩) N N)).alloc (.cells (tY (List.replicate N false)) 4)).heap[w2.heap.size]?=some (.cells (zi d (.slice TA m tc) (.slice (some ⟨w3.heap.size,0,none⟩) N N) (.slice none 0 0)) 121 (0,0)):=aR _ (bF G3.out 5 _)
 have ge3:((w3.setCell ⟨w2.heap.size,5,none⟩ (.slice (some ⟨w3.heap.size,0,none⟩) N N)).alloc (.cells (tY (List.replicate N false)) 4)).heap[w3.heap.size]?=some (.cells (tY (List.replicate N false)) 4 (0,0)):=ae (by simp)
 refine (HRN.out _).mono ?_
 rintro e w4 ⟨rfl,b4⟩
 have hs4:=b4.size
 simp only [World.size_alloc,World.size_setCell] at hs4
 have HB4:=Hd (hb3s.trans (b4.mono hb3s.size))
 have G4:=Hd (aF b4 g3s)
 have GE4:=Hd (aF b4 ge3)
 clear b4 g3s ge3 hs3' hb3s x0 x1 x2 x3 z5 y5
 have hgl4:w2.heap.size<w4.heap.size:=by omega
 have z6:=aC (k:=6) G4.out rfl
 have y6:=aJ G4.out 6
 have x5:(w4.setCell ⟨w2.heap.size,6,none⟩ (.slice (some ⟨w4.heap.size,0,none⟩) N N)).cell? ⟨w2.heap.size,5,none⟩=some (.slice (some ⟨w3.heap.size,0,none⟩) N N):=aC (k:=5) (bF G4.out 6 _) rfl
 go_wp2_with fail
 have hb0:=(HB4.out.setCell (p:=⟨w2.heap.size,6,none⟩) (Nat.le_refl _) (.slice (some ⟨w4.heap.size,0,none⟩) N N)).alloc (o := .cells (arr (List.replicate N 0)) 3) (by simp;omega)
 have g0:=aR (.cells (arr (List.replicate N 0)) 3) (bF G4.out 6 (.slice (some ⟨w4.heap.size,0,none⟩) N N))
 have ge0:=aR (.cells (arr (List.replicate N 0)) 3) (fU GE4.out (p:=⟨w2.heap.size,6,none⟩) (by simp;omega) (.slice (some ⟨w4.heap.size,0,none⟩) N N))
 have HS0:=Hd (And.intro hb0 (And.intro g0 ge0))
 clear hb0 g0 ge0 z6 y6 x5
 go_loopw [30] (fun i wr=>∃k:Nat,k<=N/\i = .int .i64 k/\wr.heap[w2.heap.size]?=some (.cells (zi d (.slice TA m tc) (.slice (some ⟨w3.heap.size,0,none⟩) N N) (.slice (some ⟨w4.heap.size,0,none⟩) N N)) 121 (0,0))/\wr.heap[w3.heap.size]?=some (.cells (tY (um d k++List.replicate (N - k) false)) 4 (0,0))/\wr.heap[w4.heap.size]?=some (.cells (arr (mR d (av d fs) k++List.replicate (N - k) 0)) 3 (0,0))/\Below w2.heap.size w2 wr) (fun i _=>N - (intOf i).toNat)
 case atStart=>exact ⟨0,by omega,rfl,HS0.out.2.1,by simpa [um] using HS0.out.2.2,ae (World.size_setCell _ _ _),HS0.out.1⟩
 case round =>
  obtain ⟨k,hk,rfl,hg,hge,hgd,hb⟩:=hrel
  have HG:=Hd hg
  have HGE:=Hd hge
  have HGD:=Hd hgd
  have HB:=Hd hb
  have hlr:=aX hgd
  clear hg hge hgd hb
  by_cases hlt:k<N
  ·have hdk:decide ((k:Int)<(N:Int))=true:=by simp;omega
   have HNIK:=Hd (HNI.out k hlt)
   have HPUT:=Hd (fun b=>sH (l:=um d k) (z:=false) (b:=b) (jL d k) hlt)
   have HPUD:=Hd (fun b=>sH (l:=mR d (av d fs) k) (z:=(0:Int)) (b:=b) (jd d (av d fs) k) hlt)
   have HPUD2:=Hd (fun a b=>FJ (l:=mR d (av d fs) k) (z:=(0:Int)) (a:=a) (b:=b) (jd d (av d fs) k) hlt)
   have HES:=Hd (ET d k)
   have HDS:=Hd (vV d (av d fs) k)
   have i0:(0:Int)<=(k:Int):=by omega
   have i1:(k:Int)<(N:Int):=by omega
   have hgr:w2.heap.size<wr.heap.size:=by omega
   have hger:w3.heap.size<wr.heap.size:=by omega
   have hwr:w.heap.size<wr.heap.size:=by omega
   have x6:=aC (k:=6) HG.out rfl
   have zd:=aC (k:=k) HGD.out (fC (by simp [jd];omega))
   have yd:=aJ HGD.out k
   have HQ7:=Hd (GQ (gw:=w.heap.size) (g:=w2.heap.size) ⟨w4.heap.size,k,none⟩ (.int .i64 (-1)) (by simp;omega) (by simp;omega) (Gx HB.out (by omega) (jO HB2.out (by simp) HQ0.out) HG.out))
   have HGA:=Hd (fU HG.out (p:=⟨w4.heap.size,k,none⟩) (by simp;omega) (.int .i64 (-1)))
   have HGEA:=Hd (fU HGE.out (p:=⟨w4.heap.size,k,none⟩) (by simp;omega) (.int .i64 (-1)))
   have HGDA:=Hd (bF HGD.out k (.int .i64 (-1)))
   have HBA:=Hd (HB.out.setCell (p:=⟨w4.heap.size,k,none⟩) (by dsimp only;omega) (.int .i64 (-1)))
   have hszA:(wr.setCell ⟨w4.heap.size,k,none⟩ (.int .i64 (-1))).heap.size=wr.heap.size:=World.size_setCell _ _ _
   have HSZA:=Hd hszA
   have hgA:w2.heap.size<(wr.setCell ⟨w4.heap.size,k,none⟩ (.int .i64 (-1))).heap.size:=by omega
   have hwA:w.heap.size<(wr.setCell ⟨w4.heap.size,k,none⟩ (.int .i64 (-1))).heap.size:=by omega
   clear hszA
   go_wp2_with fail
   have hD:=Below.refl (wr.setCell ⟨w4.heap.size,k,none⟩ (.int .i64 (-1))).heap.size (wr.setCell ⟨w4.heap.size,k,none⟩ (.int .i64 (-1)))
   generalize hNO:bS d (k:Int)=bo at *
   have HNO:=Hd hNO
   have HOK:Hid (∀w,Calls Tryz.prog 141 #[.agg #[.int .i64 d.W,.int .i64 d.H,.int .i64 d.T,.int .i64 d.R],.int .i64 (k:Int)] w fun e w'=>e = .returned (.bool bo)/\Below w.heap.size w w'):=fun w=>by have h:=gQ d (k:Int) w;rwa [hNO] at h
   clear hNO
   go_region_held3 (fun w'=>w'.cell? ⟨w.heap.size,0,none⟩=some (.int .i64 d.W)/\w'.cell? ⟨w.heap.size,1,none⟩=some (.int .i64 d.H)/\w'.cell? ⟨w.heap.size,2,none⟩=some (.int .i64 d.T)/\w'.cell? ⟨w.heap.size,3,none⟩=some (.int .i64 d.R)/\w'.cell? ⟨w2.heap.size,4,none⟩=some (.slice TA m tc)/\w'.cell? ⟨w2.heap.size,5,none⟩=some (.slice (some ⟨w3.heap.size,0,none⟩) N N)/\w'.cell? ⟨w2.heap.size,6,none⟩=some (.slice (some ⟨w4.heap.size,0,none⟩) N N))
    (first|with_reducible exact uR hD hwA hgA HQ7.out|with_reducible exact uR hD.drew hwA hgA HQ7.out|(with_reducible refine GQ _ _ ?_ ?_ (uR hD hwA hgA HQ7.out)) <;> (dsimp only;omega))
    ((go_at_call 141;(with_reducible refine (HOK.out _).mono ?_);rintro e w5 ⟨rfl,b5⟩;have hD2:=aA hD.drew b5;have hs5:=b5.size;have ge5:=aF hD2 HGEA.out;have ze:=aC (k:=k) ge5 (vP (by simp [jL];omega));have ye:=aJ ge5 k;have HGE5:=Hd ge5;clear b5 ge5;replace hD:=hD2))
   have q7:=GQ (gw:=w.heap.size) (g:=w2.heap.size) ⟨w3.heap.size,k,none⟩ (.bool bo) (by dsimp only;omega) (by dsimp only;omega) (uR hD hwA hgA HQ7.out)
   have g5:=fU (aF hD HGA.out) (p:=⟨w3.heap.size,k,none⟩) (by dsimp only;omega) (.bool bo)
   have d5:=fU (aF hD HGDA.out) (p:=⟨w3.heap.size,k,none⟩) (by dsimp only;omega) (.bool bo)
   have e5:=bF HGE5.out k (.bool bo)
   have b5:=(HBA.out.trans (hD.mono HBA.out.size)).setCell (p:=⟨w3.heap.size,k,none⟩) (by dsimp only;omega) (.bool bo)
   have hs5w:(w5.setCell ⟨w3.heap.size,k,none⟩ (.bool bo)).heap.size=w5.heap.size:=World.size_setCell _ _ _
   have hs5g:w4.heap.size<(w5.setCell ⟨w3.heap.size,k,none⟩ (.bool bo)).heap.size:=by rw [hs5w];have:=hD.size;have:=HSZA.out;omega
   rw [iA] at d5
   rw [FI,HPUT.out,←HES.out] at e5
   have zk:(um d (k+1)++List.replicate (N - (k+1)) false)[k]?.getD false=bo:=by rw [HES.out,List.append_assoc,List.getElem?_append_right (by rw [jL];exact Nat.le_refl _),jL,Nat.sub_self];rfl
   clear ze ye hD hs5w zd yd x6 hs5
   generalize w5.setCell ⟨w3.heap.size,k,none⟩ (.bool bo)=wS at *
   have ck:=aC (k:=k) e5 (vP (by simp [jL];omega))
   rw [zk] at ck
   have x5:=q7.2.2.2.2.2.1
   have HQS:=Hd q7
   have G5:=Hd g5
   have D5:=Hd d5
   have E5:=Hd e5
   have B5:=Hd b5
   clear q7 g5 d5 e5 b5 zk
   have hwS:w.heap.size<wS.heap.size:=by omega
   have hgS:w2.heap.size<wS.heap.size:=by omega
   cases bo with
   | false =>
    have HDX:=Hd (rD (ts:=av d fs) (n:=(k:Int)) (by rw [HNO.out];simp)).1
    go_wp2_with fail
    go_roundw
    case rel=>exact ⟨k+1,by omega,by go_num,G5.out,E5.out,by rw [HDS.out,HDX.out,←HPUD.out];exact D5.out,B5.out⟩
    case measure=>simp [intOf];omega
   | true =>
    obtain ⟨q0,q1,q2,q3,-⟩:=HQS.out
    by_cases h5:(k:Int) % aM d=5∨(k:Int) % aM d=6
    ·have HDX:=Hd (rD (ts:=av d fs) (n:=(k:Int)) (by rintro ⟨_,h⟩;exact h h5)).1
     have HOP:Hid (∀w,Calls Tryz.prog 142 #[.agg #[.int .i64 d.W,.int .i64 d.H,.int .i64 d.T,.int .i64 d.R],.int .i64 (k:Int)] w fun e w'=>e = .returned (.bool true)/\Below w.heap.size w w'):=fun w=>by have h:=sM d (k:Int) w;rwa [HNO.out,show (decide ((k:Int) % aM d=5) || decide ((k:Int) % aM d=6))=true from by rcases h5 with h|h <;> simp [h]] at h
     clear h5
     go_wp2_with fail
     refine (HOP.out _).mono ?_
     rintro e w6 ⟨rfl,b6⟩
     have HB6:=Hd (B5.out.trans (b6.mono B5.out.size))
     have G6:=Hd (aF b6 G5.out)
     have E6:=Hd (aF b6 E5.out)
     have D6:=Hd (aF b6 D5.out)
     clear b6
     go_wp2_with fail
     go_roundw
     case rel=>exact ⟨k+1,by omega,by go_num,G6.out,E6.out,by rw [HDS.out,HDX.out,←HPUD.out];exact D6.out,HB6.out⟩
     case measure=>simp [intOf];omega
    ·have HDX:=Hd (vW (ts:=av d fs) HNO.out h5)
     have H5:=Hd h5
     have HOP:Hid (∀w,Calls Tryz.prog 142 #[.agg #[.int .i64 d.W,.int .i64 d.H,.int .i64 d.T,.int .i64 d.R],.int .i64 (k:Int)] w fun e w'=>e = .returned (.bool false)/\Below w.heap.size w w'):=fun w=>by have h:=sM d (k:Int) w;rwa [HNO.out,show (decide ((k:Int) % aM d=5) || decide ((k:Int) % aM d=6))=false from by simp;omega] at h
     clear h5
     go_wp2_with fail
     refine (HOP.out _).mono ?_
     rintro e w6 ⟨rfl,b6⟩
     have hs6:=b6.size
     have HB6:=Hd (B5.out.trans (b6.mono B5.out.size))
     have G6:=Hd (aF b6 G5.out)
     have E6:=Hd (aF b6 E5.out)
     have D6:=Hd (aF b6 D5.out)
     have HQ6:=Hd (uR b6 hwS hgS HQS.out)
     have hw6:w.heap.size<w6.heap.size:=by omega
     have hg6:w2.heap.size<w6.heap.size:=by omega
     clear b6 q0 q1 q2 q3 x5 ck
     have hD:=Below.refl w6.heap.size w6
     generalize hX:lW (jM d (av d fs) (k:Int)) (jg d (k:Int))=X at *
     have HX:=Hd hX
     clear hX
     go_wp2_with fail
     go_region_held3 (fun w'=>w'.cell? ⟨w.heap.size,0,none⟩=some (.int .i64 d.W)/\w'.cell? ⟨w.heap.size,1,none⟩=some (.int .i64 d.H)/\w'.cell? ⟨w.heap.size,2,none⟩=some (.int .i64 d.T)/\w'.cell? ⟨w.heap.size,3,none⟩=some (.int .i64 d.R)/\w'.cell? ⟨w2.heap.size,4,none⟩=some (.slice TA m tc)/\w'.cell? ⟨w2.heap.size,5,none⟩=some (.slice (some ⟨w3.heap.size,0,none⟩) N N)/\w'.cell? ⟨w2.heap.size,6,none⟩=some (.slice (some ⟨w4.heap.size,0,none⟩) N N))
      (first|with_reducible exact uR hD hw6 hg6 HQ6.out|with_reducible exact uR hD.drew hw6 hg6 HQ6.out|(with_reducible refine GQ _ _ ?_ ?_ (uR hD hw6 hg6 HQ6.out)) <;> (dsimp only;omega))
      (first
       | (go_at_call 144;(with_reducible refine (zM d (k:Int) _).mono ?_);rintro e w7 ⟨A7,n7,c7,rfl,o7,b7⟩;have O7:=Hd o7.ints;have hn7:n7<=1048576:=(by have h1:=Dp d (k:Int);have h2:=o7.len;omega);have hD2:=aA hD.drew b7;clear b7 o7;replace hD:=hD2)
       | (go_at_call 143;(with_reducible refine (yR d TA m tc _ (k:Int) A7 n7 c7 _ _ (O2.out.below (HB6.out.trans (hD.mono HB6.out.size))) O7.out HC.out HNIK.out H5.out hn7).mono ?_);rw [HX.out];rintro e w8 ⟨rfl,b8⟩;have hD2:=aA hD b8;have d8:=aF hD2 D6.out;have zd:=aC (k:=k) d8 (fC (by simp [jd];omega));have yd:=aJ d8 k;have D8:=Hd d8;clear b8 d8;replace hD:=hD2))
     have g9:=fU (aF hD G6.out) (p:=⟨w4.heap.size,k,none⟩) (by dsimp only;omega) (.int .i64 X)
     have e9:=fU (aF hD E6.out) (p:=⟨w4.heap.size,k,none⟩) (by dsimp only;omega) (.int .i64 X)
     have d9:=bF D8.out k (.int .i64 X)
     have b9:=(HB6.out.trans (hD.mono HB6.out.size)).setCell (p:=⟨w4.heap.size,k,none⟩) (by dsimp only;omega) (.int .i64 X)
     rw [iA,HPUD2.out] at d9
     have R9:=Hd (And.intro g9 (And.intro e9 (And.intro d9 b9)))
     clear g9 e9 d9 b9 zd yd hD
     go_wp2_with fail
     go_roundw
     case rel=>exact ⟨k+1,by omega,by go_num,R9.out.1,R9.out.2.1,by rw [HDS.out,HDX.out];exact R9.out.2.2.1,R9.out.2.2.2⟩
     case measure=>simp [intOf];omega
  ·have hkN:k=N:=by omega
   have HKN:=Hd hkN
   have hdk:decide ((k:Int)<(N:Int))=false:=by simp;omega
   clear hkN
   go_wp2_with fail
   go_ret
   refine ⟨w2.heap.size,TA,tc,some ⟨w3.heap.size,0,none⟩,some ⟨w4.heap.size,0,none⟩,rfl,⟨HG.out,O2.out.below HB.out,vQ.made ?_ (jL d N),zh ?_ (jd _ _ N)⟩,aA HB0.out (aA HB2.out HB.out)⟩
   ·have:=HGE.out
    rw [HKN.out,Nat.sub_self,List.replicate_zero,List.append_nil] at this
    exact this
   ·have:=HGD.out
    rw [HKN.out,Nat.sub_self,List.replicate_zero,List.append_nil] at this
    exact this
def gY (d:Dev) (r:Reg) (t:Int):Bool:=inR (t % d.W) r.X0 r.X1 && inR (t / d.W) r.Y0 r.Y1
theorem kw (d:Dev) (r:Reg) (t:Int) (w:World) (hW:3<=d.W) (hW':d.W<=6) (ht:0<=t) (ht':t<=1099511627776) :
  Calls Tryz.prog 118 #[.agg #[.int .i64 d.W,.int .i64 d.H,.int .i64 d.T,.int .i64 d.R],.agg #[.int .i64 r.X0,.int .i64 r.Y0,.int .i64 r.X1,.int .i64 r.Y1],.int .i64 t] w fun e w'=>e = .returned (.bool (gY d r t))/\Below w.heap.size w w':=by
 unfold gY
 have e0:¬d.W=0:=by omega
 have e1:t.tmod d.W=t % d.W:=Int.tmod_eq_emod_of_nonneg ht
 have e2:IntKind.i64.wrap (t.tdiv d.W)=t / d.W:=IntWalk.i64_quo _ _ ⟨ht,by omega,by omega⟩
 cases h1:inR (t % d.W) r.X0 r.X1 with
 | true =>
  go_enter Tryz.func118,Tryz.ntmps118
  go_wp2_with fail
  go_quiet ((go_at_call 116;exact Calls.quiet_of_same (yG _ _ _ _)))
  go_wp2_with fail
  go_ret
  exact ⟨by simp,aZ (aB (aB (Below.refl _ _) _) _) _⟩
 | false =>
  have hc1:∀w,Calls Tryz.prog 116 #[.int .i64 (t % d.W),.int .i64 r.X0,.int .i64 r.X1] w fun e w'=>e = .returned (.bool false)/\w'=w:=fun w=>by
   have:=yG (t % d.W) r.X0 r.X1 w
   rwa [h1] at this
  have HC1:=Hd hc1
  clear hc1 h1
  go_enter Tryz.func118,Tryz.ntmps118
  go_wp2_with fail
  go_quiet ((go_at_call 116;exact Calls.quiet_of_same (HC1.out _)))
  go_wp2_with fail
  go_ret
  exact ⟨by simp,aZ (aB (aB (Below.refl _ _) _) _) _⟩
theorem iH (d:Dev) (r:Reg) (t:Int) (w:World) (hW:3<=d.W) (hW':d.W<=6) (ht:0<=t) (ht':t<=1099511627776) :
  Calls Tryz.prog 155 #[.agg #[.int .i64 d.W,.int .i64 d.H,.int .i64 d.T,.int .i64 d.R],.agg #[.int .i64 r.X0,.int .i64 r.Y0,.int .i64 r.X1,.int .i64 r.Y1],.int .i64 t] w fun e w'=>e = .returned (.bool (gY d r t))/\Below w.heap.size w w':=by
 unfold gY
 have e0:¬d.W=0:=by omega
 have e1:t.tmod d.W=t % d.W:=Int.tmod_eq_emod_of_nonneg ht
 have e2:IntKind.i64.wrap (t.tdiv d.W)=t / d.W:=IntWalk.i64_quo _ _ ⟨ht,by omega,by omega⟩
 cases h1:inR (t % d.W) r.X0 r.X1 with
 | true =>
  go_enter Tryz.func155,Tryz.ntmps155
  go_wp2_with fail
  go_quiet ((go_at_call 175;exact Calls.quiet_of_same (EL _ _ _ _)))
  go_wp2_with fail
  go_ret
  exact ⟨by simp,aZ (aB (aB (Below.refl _ _) _) _) _⟩
 | false =>
  have hc1:∀w,Calls Tryz.prog 175 #[.int .i64 (t % d.W),.int .i64 r.X0,.int .i64 r.X1] w fun e w'=>e = .returned (.bool false)/\w'=w:=fun w=>by
   have:=EL (t % d.W) r.X0 r.X1 w
   rwa [h1] at this
  have HC1:=Hd hc1
  clear hc1 h1
  go_enter Tryz.func155,Tryz.ntmps155
  go_wp2_with fail
  go_quiet ((go_at_call 175;exact Calls.quiet_of_same (HC1.out _)))
  go_wp2_with fail
  go_ret
  exact ⟨by simp,aZ (aB (aB (Below.refl _ _) _) _) _⟩
def dh (d:Dev) (r:Reg):Nat→List Int
 | 0=>[]
 | k+1=>dh d r k++if gY d r (k:Int) then [(k:Int)] else []
def aQ (d:Dev) (r:Reg):List Int:=if mF d r then dh d r (tiles d) else []
theorem FK (d:Dev) (r:Reg) (k:Nat):(dh d r k).length<=k:=by
 induction k with
 | zero=>simp [dh]
 | succ k ih=>unfold dh;split <;> simp <;> omega
theorem nK {d:Dev} {r:Reg} (h:mF d r=true):bO d=true:=by
 simp only [mF,Bool.and_eq_true] at h;exact h.1
theorem kM (d:Dev) (r:Reg):(aQ d r).length<=36:=by
 unfold aQ
 split
 ·rename_i h
  have:=(bT (nK h)).2.2
  have:=FK d r (tiles d)
  omega
 ·simp
theorem kV (d:Dev) (r:Reg) (w:World) :
  Calls Tryz.prog 165 #[.agg #[.int .i64 d.W,.int .i64 d.H,.int .i64 d.T,.int .i64 d.R],.agg #[.int .i64 r.X0,.int .i64 r.Y0,.int .i64 r.X1,.int .i64 r.Y1]] w fun e w'=>∃A m c,e = .returned (.slice A m c)/\Own w.heap.size w' A m c (aQ d r)/\Below w.heap.size w w':=by
 have hB0:Below w.heap.size w ((w.alloc (.cells #[.int .i64 d.W,.int .i64 d.H,.int .i64 d.T,.int .i64 d.R] 25)).alloc (.cells #[.int .i64 r.X0,.int .i64 r.Y0,.int .i64 r.X1,.int .i64 r.Y1] 29)):=aB (aB (Below.refl _ _) _) _
 go_enter Tryz.func165,Tryz.ntmps165
 go_wp2_with fail
 refine (lF d r _).mono ?_
 rintro e w1 ⟨rfl,b1⟩
 have hs1:=b1.size
 simp only [World.size_alloc] at hs1
 obtain ⟨hcc,hff⟩:=aO b1
 have B1:=Hd b1
 clear b1
 cases hd:mF d r with
 | false =>
  have HD:=Hd hd
  clear hd
  go_wp2_with fail
  go_ret
  exact ⟨none,0,0,rfl,by rw [aQ,HD.out];exact Own.nil,aA hB0 B1.out⟩
 | true =>
  obtain ⟨hN,hN1,hN2⟩:=bT (nK hd)
  obtain ⟨hw1,hw2,_⟩:=aY (nK hd)
  have HD:=Hd hd
  clear hd
  generalize hT:tiles d=N at *
  have HT:=Hd hT
  clear hT
  go_wp2_with fail
  go_loopw [5,6] (fun v i wr=>∃(k:Nat) (A:Option Addr) (m c:Nat),k<=N/\m<=k/\i = .int .i64 k/\v = .slice A m c/\Own (((w.alloc (.cells #[.int .i64 d.W,.int .i64 d.H,.int .i64 d.T,.int .i64 d.R] 25)).alloc (.cells #[.int .i64 r.X0,.int .i64 r.Y0,.int .i64 r.X1,.int .i64 r.Y1] 29))).heap.size wr A m c (dh d r k)/\Below (((w.alloc (.cells #[.int .i64 d.W,.int .i64 d.H,.int .i64 d.T,.int .i64 d.R] 25)).alloc (.cells #[.int .i64 r.X0,.int .i64 r.Y0,.int .i64 r.X1,.int .i64 r.Y1] 29))).heap.size ((w.alloc (.cells #[.int .i64 d.W,.int .i64 d.H,.int .i64 d.T,.int .i64 d.R] 25)).alloc (.cells #[.int .i64 r.X0,.int .i64 r.Y0,.int .i64 r.X1,.int .i64 r.Y1] 29)) wr) (fun _ i _=>N - (intOf i).toNat)
  case atStart=>exact ⟨0,none,0,0,Nat.zero_le _,Nat.zero_le _,rfl,rfl,Own.nil,B1.out⟩
  case round =>
   obtain ⟨k,A,m,c,hk,hmk,rfl,rfl,ho,hbe⟩:=hrel
   clear hcc hff
   obtain ⟨hcc,hff⟩:=aO hbe
   have hsw:=hbe.size
   simp only [World.size_alloc] at hsw
   have HO:=Hd ho
   have HE:=Hd hbe
   clear ho hbe
   by_cases hlt:k<N
   ·go_wp2_with fail
    refine (kw d r k _ hw1 hw2 (by omega) (by omega)).mono ?_
    rintro e w3 ⟨rfl,b3⟩
    have O3:=Hd (HO.out.below b3)
    have E3:=Hd (aA HE.out b3)
    have s3:=b3.size
    clear b3
    have hs:=dh.eq_2 d r k
    have HS:=Hd hs
    clear hs
    cases hin:gY d r k with
    | true =>
     have HI:=Hd hin
     clear hin hcc hff
     obtain ⟨hcc,hff⟩:=aO E3.out
     go_wp2_with (at_builtin;refine ax rfl _ _ rfl (((w.alloc (.cells #[.int .i64 d.W,.int .i64 d.H,.int .i64 d.T,.int .i64 d.R] 25)).alloc (.cells #[.int .i64 r.X0,.int .i64 r.Y0,.int .i64 r.X1,.int .i64 r.Y1] 29))).heap.size A m c (dh d r k) (k:Int) rfl O3.out rfl (by omega) E3.out.size E3.out ?_;rintro g4 cap w4 o4 b4 gr4 hat4)
     go_roundw
     case rel=>exact ⟨k+1,_,_,_,by omega,by omega,by go_num,rfl,by rw [HS.out,HI.out];exact o4,b4⟩
     case measure=>simp [intOf];omega
    | false =>
     have HI:=Hd hin
     clear hin hcc hff
     obtain ⟨hcc,hff⟩:=aO E3.out
     go_wp2_with fail
     go_roundw
     case rel=>exact ⟨k+1,A,m,c,by omega,by omega,by go_num,rfl,by rw [HS.out,HI.out];simpa using O3.out,E3.out⟩
     case measure=>simp [intOf];omega
   ·have hkn:k=N:=by omega
    subst hkn
    go_wp2_with fail
    go_ret
    exact ⟨_,_,_,rfl,by rw [aQ,HD.out,if_pos rfl,HT.out];exact HO.out.more hB0.size,aA hB0 HE.out⟩
theorem nL (d:Dev) (r:Reg) (w:World) :
  Calls Tryz.prog 162 #[.agg #[.int .i64 d.W,.int .i64 d.H,.int .i64 d.T,.int .i64 d.R],.agg #[.int .i64 r.X0,.int .i64 r.Y0,.int .i64 r.X1,.int .i64 r.Y1]] w fun e w'=>∃A m c,e = .returned (.slice A m c)/\Own w.heap.size w' A m c (aQ d r)/\Below w.heap.size w w':=by
 have hB0:Below w.heap.size w ((w.alloc (.cells #[.int .i64 d.W,.int .i64 d.H,.int .i64 d.T,.int .i64 d.R] 25)).alloc (.cells #[.int .i64 r.X0,.int .i64 r.Y0,.int .i64 r.X1,.int .i64 r.Y1] 29)):=aB (aB (Below.refl _ _) _) _
 go_enter Tryz.func162,Tryz.ntmps162
 go_wp2_with fail
 refine (qj d r _).mono ?_
 rintro e w1 ⟨rfl,b1⟩
 have hs1:=b1.size
 simp only [World.size_alloc] at hs1
 replace hs1:w.heap.size+3<=w1.heap.size:=by omega
 have O1:=Hd ((Own.newAt (base:=(((w.alloc (.cells #[.int .i64 d.W,.int .i64 d.H,.int .i64 d.T,.int .i64 d.R] 25)).alloc (.cells #[.int .i64 r.X0,.int .i64 r.Y0,.int .i64 r.X1,.int .i64 r.Y1] 29))).heap.size) (w:=((w.alloc (.cells #[.int .i64 d.W,.int .i64 d.H,.int .i64 d.T,.int .i64 d.R] 25)).alloc (.cells #[.int .i64 r.X0,.int .i64 r.Y0,.int .i64 r.X1,.int .i64 r.Y1] 29))) (g:=w.heap.size+1+1) (by simp) (by simp)).below b1)
 replace b1:=aA (aB (Below.refl (((w.alloc (.cells #[.int .i64 d.W,.int .i64 d.H,.int .i64 d.T,.int .i64 d.R] 25)).alloc (.cells #[.int .i64 r.X0,.int .i64 r.Y0,.int .i64 r.X1,.int .i64 r.Y1] 29))).heap.size ((w.alloc (.cells #[.int .i64 d.W,.int .i64 d.H,.int .i64 d.T,.int .i64 d.R] 25)).alloc (.cells #[.int .i64 r.X0,.int .i64 r.Y0,.int .i64 r.X1,.int .i64 r.Y1] 29))) _) b1
 obtain ⟨hcc,hff⟩:=aO b1
 have B1:=Hd b1
 clear b1
 cases hd:mF d r with
 | false =>
  have HD:=Hd hd
  clear hd
  go_wp2_with fail
  go_ret
  exact ⟨_,0,0,rfl,by rw [aQ,HD.out];exact O1.out.more hB0.size,aA hB0 B1.out⟩
 | true =>
  obtain ⟨hN,hN1,hN2⟩:=bT (nK hd)
  obtain ⟨hw1,hw2,_⟩:=aY (nK hd)
  have HD:=Hd hd
  clear hd
  generalize hT:tiles d=N at *
  have HT:=Hd hT
  clear hT
  go_wp2_with fail
  go_loopw [5,6] (fun v i wr=>∃(k:Nat) (A:Option Addr) (m c:Nat),k<=N/\m<=k/\i = .int .i64 k/\v = .slice A m c/\Own (((w.alloc (.cells #[.int .i64 d.W,.int .i64 d.H,.int .i64 d.T,.int .i64 d.R] 25)).alloc (.cells #[.int .i64 r.X0,.int .i64 r.Y0,.int .i64 r.X1,.int .i64 r.Y1] 29))).heap.size wr A m c (dh d r k)/\Below (((w.alloc (.cells #[.int .i64 d.W,.int .i64 d.H,.int .i64 d.T,.int .i64 d.R] 25)).alloc (.cells #[.int .i64 r.X0,.int .i64 r.Y0,.int .i64 r.X1,.int .i64 r.Y1] 29))).heap.size ((w.alloc (.cells #[.int .i64 d.W,.int .i64 d.H,.int .i64 d.T,.int .i64 d.R] 25)).alloc (.cells #[.int .i64 r.X0,.int .i64 r.Y0,.int .i64 r.X1,.int .i64 r.Y1] 29)) wr) (fun _ i _=>N - (intOf i).toNat)
  case atStart=>exact ⟨0,_,0,0,Nat.zero_le _,Nat.zero_le _,rfl,rfl,O1.out,B1.out⟩
  case round =>
   obtain ⟨k,A,m,c,hk,hmk,rfl,rfl,ho,hbe⟩:=hrel
   clear hcc hff
   obtain ⟨hcc,hff⟩:=aO hbe
   have hsw:=hbe.size
   simp only [World.size_alloc] at hsw
   have HO:=Hd ho
   have HE:=Hd hbe
   clear ho hbe
   by_cases hlt:k<N
   ·go_wp2_with fail
    refine (iH d r k _ hw1 hw2 (by omega) (by omega)).mono ?_
    rintro e w3 ⟨rfl,b3⟩
    have O3:=Hd (HO.out.below b3)
    have E3:=Hd (aA HE.out b3)
    have s3:=b3.size
    clear b3
    have hs:=dh.eq_2 d r k
    have HS:=Hd hs
    clear hs
    cases hin:gY d r k with
    | true =>
     have HI:=Hd hin
     clear hin hcc hff
     obtain ⟨hcc,hff⟩:=aO E3.out
     go_wp2_with (at_builtin;refine ax rfl _ _ rfl (((w.alloc (.cells #[.int .i64 d.W,.int .i64 d.H,.int .i64 d.T,.int .i64 d.R] 25)).alloc (.cells #[.int .i64 r.X0,.int .i64 r.Y0,.int .i64 r.X1,.int .i64 r.Y1] 29))).heap.size A m c (dh d r k) (k:Int) rfl O3.out rfl (by omega) E3.out.size E3.out ?_;rintro g4 cap w4 o4 b4 gr4 hat4)
     go_roundw
     case rel=>exact ⟨k+1,_,_,_,by omega,by omega,by go_num,rfl,by rw [HS.out,HI.out];exact o4,b4⟩
     case measure=>simp [intOf];omega
    | false =>
     have HI:=Hd hin
     clear hin hcc hff
     obtain ⟨hcc,hff⟩:=aO E3.out
     go_wp2_with fail
     go_roundw
     case rel=>exact ⟨k+1,A,m,c,by omega,by omega,by go_num,rfl,by rw [HS.out,HI.out];simpa using O3.out,E3.out⟩
     case measure=>simp [intOf];omega
   ·have hkn:k=N:=by omega
    subst hkn
    go_wp2_with fail
    go_ret
    exact ⟨_,_,_,rfl,by rw [aQ,HD.out,if_pos rfl,HT.out];exact HO.out.more hB0.size,aA hB0 HE.out⟩
theorem FL {d:Dev} {n y:Int} (h:y∈jg d n):bZ d y=true/\y≠n:=by
 unfold jg at h
 split at h
 ·rename_i hn
  have hno:=hn.1
  unfold bS at hno
  rw [Bool.and_eq_true] at hno
  have ht:=gK hno.1
  obtain ⟨hd,n0,n1,hq0,hq1,hr0,hr1⟩:=dX hno.1
  have hT:=aY hd
  have hp:=bg hd
  rw [vE] at h
  unfold iP at h
  have hin:∀{q k:Int},y=q * aM d+k→0<=q→q<d.W * d.H→0<=k→k<aM d→bZ d y=true:=by
   intro q k e q0 q1 k0 k1
   refine iQ.2 ⟨hd,?_,?_⟩
   ·have:=Int.mul_nonneg q0 (show 0<=aM d by omega);omega
   ·have h1:(q+1) * aM d<=d.W * d.H * aM d:=Int.mul_le_mul_of_nonneg_right (by omega) (by omega)
    rw [Int.add_mul,Int.one_mul] at h1
    unfold ai
    omega
  rcases List.mem_append.1 h with h|h
  ·split at h
   ·rename_i h7
    obtain ⟨p,hp2,rfl⟩:=rM.1 h
    have hm:=lg ht hp2.1 hp2.2
    have hop:=gG d (n / aM d)
    refine ⟨hin (q:=n / aM d) (k:=5+p) (by rw [xf ht hp2.1 hp2.2];omega) hq0 hq1 (by omega) (by omega),fun e=>?_⟩
    rw [e] at hm
    omega
   ·simp at h
  ·obtain ⟨r,k,s,hr,hk,hs,hu,e,h0⟩:=(rJ hd).1 h
   have hc:=mU hd (t:=n / aM d) (r:=r) (k:=k) (s:=s) (by omega)
   have hm:=kS hd (t:=n / aM d) (r:=r) (k:=k) (s:=s) (by omega)
   have hti:=aV.1 hc.1
   have hk3:7+r * d.T+k<aM d:=by
    have:=jG hr.1 hr.2 (show 0<=d.T by omega) (Int.le_refl d.T)
    unfold aM
    omega
   refine ⟨hin (q:=ay d (n / aM d) ((r+2) % 4) s) (k:=7+r * d.T+k) (by rw [e,hc.2.2.2.2]) hti.2.1 hti.2.2 (by omega) hk3,fun e2=>?_⟩
   rw [←e,e2] at hm
   have hst:=lM hd hti.2.1
   rw [←hm.1] at hst
   obtain ⟨_,_,ex,ey⟩:=hst
   unfold stX at ex
   unfold stY at ey
   have:(r+2) % 4=0∨(r+2) % 4=1∨(r+2) % 4=2∨(r+2) % 4=3:=by omega
   rcases this with h4|h4|h4|h4 <;> rw [h4] at ex ey <;> simp at ex ey <;> omega
 ·simp at h
theorem sI {d:Dev} {ts:List au} {n:Int} (hc:kN d ts) (h:0<=fV d ts n):bZ d (fV d ts n)=true/\fV d ts n≠n:=by
 unfold fV at h ⊢
 split at h
 ·rename_i hl
  rw [if_pos hl]
  unfold lW at h ⊢
  split at h
  ·omega
  ·rename_i hs
   rw [if_neg hs]
   refine FL (n:=n) ?_
   rcases Nat.lt_or_ge (jM d ts n - 1).toNat (jg d n).length with hlt|hge
   ·rw [List.getElem?_eq_getElem hlt]
    exact List.getElem_mem hlt
   ·exfalso
    have hni:bZ d n=true:=by have:=hl.1;unfold bS at this;rw [Bool.and_eq_true] at this;exact this.1
    have:=CP hc hni hl.2
    omega
 ·omega
def tZ (d:Dev) (ts:List au) (r:Reg) (k:Int):Bool:=decide (fV d ts k<0) || (gY d r (k / aM d) || !gY d r (fV d ts k / aM d))
def rqF (d:Dev) (fs:List (List Int)) (r:Reg):Bool:=az d fs && (mF d r && (List.range (ai d).toNat).all fun (k:Nat)=>tZ d (av d fs) r (k:Int))
theorem FM {d:Dev} {fs:List (List Int)} {r:Reg} {k:Nat} (hk:k<(ai d).toNat) (h:tZ d (av d fs) r (k:Int)=false):rqF d fs r=false:=by
 cases hs:rqF d fs r with
 | false=>rfl
 | true =>
  simp only [rqF,Bool.and_eq_true,List.all_eq_true,List.mem_range] at hs
  rw [hs.2.2 k hk] at h
  cases h
theorem Dm {d:Dev} {fs:List (List Int)} {r:Reg} (hf:az d fs=true) (hr:mF d r=true) (h:∀k,k<(ai d).toNat→tZ d (av d fs) r ((k:Nat):Int)=true):rqF d fs r=true:=by
 simp only [rqF,Bool.and_eq_true,List.all_eq_true,List.mem_range]
 exact ⟨hf,hr,h⟩
theorem mQ {d:Dev} {r:Reg} {t:Int} {b:Bool} (h:gY d r t=b) (hd:bO d=true) (h0:0<=t) (h1:t<=1099511627776) (w:World) :
  Calls Tryz.prog 118 #[.agg #[.int .i64 d.W,.int .i64 d.H,.int .i64 d.T,.int .i64 d.R],.agg #[.int .i64 r.X0,.int .i64 r.Y0,.int .i64 r.X1,.int .i64 r.Y1],.int .i64 t] w fun e w'=>e = .returned (.bool b)/\Below w.heap.size w w':=by
 obtain ⟨a,b',_⟩:=aY hd
 have:=kw d r t w a b' h0 h1
 rwa [h] at this
theorem qJ {d:Dev} {ts:List au} {k N:Nat} (h:k<N):(mR d ts N)[k]?.getD 0=fV d ts (k:Int):=by
 unfold mR
 rw [List.getElem?_map,List.getElem?_range h]
 rfl
theorem kW (d:Dev) (A:Option Addr) (m c:Nat) (fs:List (List Int)) (r:Reg) (w:World) (hA:dZ w A m fs) (hz:af fs<=1099511627776) :
  Calls Tryz.prog 43 #[.agg #[.int .i64 d.W,.int .i64 d.H,.int .i64 d.T,.int .i64 d.R],.slice A m c,.agg #[.int .i64 r.X0,.int .i64 r.Y0,.int .i64 r.X1,.int .i64 r.Y1]] w fun e w'=>e = .returned (.bool (rqF d fs r))/\Below w.heap.size w w':=by
 have HB0:=Hd (aB (aB (Below.refl w.heap.size w) (.cells #[.int .i64 d.W,.int .i64 d.H,.int .i64 d.T,.int .i64 d.R] 25)) (.cells #[.int .i64 r.X0,.int .i64 r.Y0,.int .i64 r.X1,.int .i64 r.Y1] 29))
 have HI:=Hd hA
 clear hA
 go_enter Tryz.func43,Tryz.ntmps43
 go_wp2_with fail
 refine (gB d A m c fs _ (HI.out.below HB0.out) hz).mono ?_
 rintro e w1 ⟨rfl,b1⟩
 have hs1:=b1.size
 simp only [World.size_alloc] at hs1
 have D1:=Hd b1
 obtain ⟨hcc,hff⟩:=aO b1
 clear b1
 cases hf:az d fs with
 | false =>
  have HF:Hid (rqF d fs r=false):=by show _=_;unfold rqF;rw [hf];rfl
  clear hf
  go_wp2_with fail
  go_ret
  exact ⟨aH HF.out.symm,aA HB0.out D1.out⟩
 | true =>
  have HFO:=Hd hf
  have hdv:=(aj hf).1
  have HD:=Hd hdv
  have hnb:=cK hdv
  have hWH:=dL hdv
  have hm36:=(dW hf).2
  clear hf
  go_wp2_with fail
  refine (lF d r _).mono ?_
  rintro e w2 ⟨rfl,b2⟩
  have D2:=Hd (aA D1.out b2)
  have hs2:=b2.size
  clear b2 hcc hff
  obtain ⟨hcc,hff⟩:=aO D2.out
  cases hr:mF d r with
  | false =>
   have HF:Hid (rqF d fs r=false):=by show _=_;unfold rqF;rw [hr];simp
   clear hr hdv hcc hff
   go_wp2_with fail
   go_ret
   exact ⟨aH HF.out.symm,aA HB0.out D2.out⟩
  | true =>
   have HR:=Hd hr
   clear hr hdv
   go_wp2_with fail
   refine (pU d A m c fs _ (HI.out.below (aA HB0.out D2.out)) HFO.out).mono ?_
   rintro e w3 ⟨g,TA,tc,EA,DA,rfl,hem,b3⟩
   have D3:=Hd (aA D2.out b3)
   have hs3:=b3.size
   have x6:=aC (k:=6) hem.box rfl
   have HDR:=Hd hem.drv
   have hgl:=aX hem.box
   clear b3 hem hcc hff
   obtain ⟨N,hN⟩:∃N:Nat,ai d=(N:Int):=⟨(ai d).toNat,by omega⟩
   have hNN:(ai d).toNat=N:=by omega
   have HN:=Hd hN
   have HBAD:=Hd (fun k hk h=>FM (d:=d) (fs:=fs) (r:=r) (k:=k) hk h)
   have HGOOD:=Hd (fun h=>Dm (d:=d) (fs:=fs) (r:=r) HFO.out HR.out h)
   rw [hNN] at x6 HDR HBAD HGOOD
   rw [hN] at hnb
   clear hN hNN
   go_wp2_with fail
   go_loopw [30] (fun i wr=>∃k:Nat,k<=N/\i = .int .i64 k/\Below w3.heap.size w3 wr/\∀j,j<k→tZ d (av d fs) r ((j:Nat):Int)=true) (fun i _=>N - (intOf i).toNat)
   case atStart=>exact ⟨0,by omega,rfl,Below.refl _ _,by intro j hj;omega⟩
   case round =>
    obtain ⟨k,hk,rfl,hb,hall⟩:=hrel
    have HALL:=Hd hall
    have HB:=Hd hb
    have hs:=hb.size
    clear hall
    by_cases hlt:k<N
    ·have hdk:decide ((k:Int)<(N:Int))=true:=by simp;omega
     have hni:bZ d (k:Int)=true:=iQ.2 ⟨HD.out,by omega,by rw [HN.out];omega⟩
     have HNI:=Hd hni
     obtain ⟨_,n0,n1,hq0,hq1,hr0,hr1⟩:=dX hni
     obtain ⟨b,o,rfl,hbl,hc⟩:=HDR.out.2 (by omega)
     have hck:=hc k hlt
     rw [qJ hlt,←hb.cell (p:=⟨b,o+k,none⟩) hbl] at hck
     have hbr:b<wr.heap.size:=by omega
     have HROK:Hid (tZ d (av d fs) r (k:Int)=(decide (fV d (av d fs) (k:Int)<0) || (gY d r ((k:Int) / aM d) || !gY d r (fV d (av d fs) (k:Int) / aM d)))):=rfl
     have HDN:=Hd (fun h=>(sI (n:=(k:Int)) (kJ HFO.out) h).1)
     have HBD:=Hd (HBAD.out k hlt)
     have HALS:=Hd (fun h=>gF HALL.out h)
     have i0:(0:Int)<=(k:Int):=by omega
     have i1:(k:Int)<(N:Int):=by omega
     generalize fV d (av d fs) (k:Int)=s at *
     clear hni hc hb
     obtain ⟨hcc,hff⟩:=aO (aA D3.out HB.out)
     by_cases hs0:s<0
     ·have hds:decide (s<0)=true:=by simpa using hs0
      have HE:Hid (tZ d (av d fs) r (k:Int)=true):=by show _=_;rw [HROK.out,hds];rfl
      clear hcc hff
      go_wp2_with fail
      go_roundw
      case rel=>exact ⟨k+1,by omega,by go_num,HB.out,HALS.out HE.out⟩
      case measure=>simp [intOf];omega
     ·have hds:decide (s<0)=false:=by simp;omega
      have hsi:=HDN.out (by omega)
      have HSI:=Hd hsi
      obtain ⟨_,s0,s1,hqs0,hqs1,_⟩:=dX hsi
      rw [hds] at HROK
      clear hsi
      have hww:w.heap.size+1<wr.heap.size:=by omega
      go_wp2_with fail
      refine (fD d (k:Int) _ HNI.out).mono ?_
      rintro e w4 ⟨rfl,b4⟩
      have HB4:=Hd (aA HB.out b4)
      have hs4:=b4.size
      clear b4 hcc hff hck
      obtain ⟨hcc,hff⟩:=aO (aA D3.out HB4.out)
      go_wp2_with fail
      refine (fD d s _ HSI.out).mono ?_
      rintro e w5 ⟨rfl,b5⟩
      have HB5:=Hd (aA HB4.out b5)
      have hs5:=b5.size
      clear b5 hcc hff
      obtain ⟨hcc,hff⟩:=aO (aA D3.out HB5.out)
      generalize (k:Int) / aM d=q at *
      generalize (k:Int) % aM d=qm at *
      generalize s / aM d=qs at *
      generalize s % aM d=qsm at *
      cases h1:gY d r q with
      | true =>
       have HC:=Hd (fun w=>mQ h1 HD.out hq0 (by omega) w)
       have HE:Hid (tZ d (av d fs) r (k:Int)=true):=by show _=_;rw [HROK.out,h1];rfl
       clear h1
       go_wp2_with fail
       refine (HC.out _).mono ?_
       rintro e w6 ⟨rfl,b6⟩
       have HB6:=Hd (aA HB5.out b6)
       clear b6 hcc hff
       go_wp2_with fail
       go_roundw
       case rel=>exact ⟨k+1,by omega,by go_num,HB6.out,HALS.out HE.out⟩
       case measure=>simp [intOf];omega
      | false =>
       have HC:=Hd (fun w=>mQ h1 HD.out hq0 (by omega) w)
       rw [h1] at HROK
       clear h1
       go_wp2_with fail
       refine (HC.out _).mono ?_
       rintro e w6 ⟨rfl,b6⟩
       have HB6:=Hd (aA HB5.out b6)
       have hs6:=b6.size
       clear b6 hcc hff
       obtain ⟨hcc,hff⟩:=aO (aA D3.out HB6.out)
       cases h2:gY d r qs with
       | true =>
        have HC2:=Hd (fun w=>mQ h2 HD.out hqs0 (by omega) w)
        have HE:=Hd (HBD.out (by rw [HROK.out,h2];rfl))
        clear h2
        go_wp2_with fail
        refine (HC2.out _).mono ?_
        rintro e w7 ⟨rfl,b7⟩
        have HB7:=Hd (aA HB6.out b7)
        clear b7 hcc hff
        go_wp2_with fail
        go_ret
        exact ⟨aH HE.out.symm,aA HB0.out (aA D3.out HB7.out)⟩
       | false =>
        have HC2:=Hd (fun w=>mQ h2 HD.out hqs0 (by omega) w)
        have HE:Hid (tZ d (av d fs) r (k:Int)=true):=by show _=_;rw [HROK.out,h2];rfl
        clear h2
        go_wp2_with fail
        refine (HC2.out _).mono ?_
        rintro e w7 ⟨rfl,b7⟩
        have HB7:=Hd (aA HB6.out b7)
        clear b7 hcc hff
        go_wp2_with fail
        go_roundw
        case rel=>exact ⟨k+1,by omega,by go_num,HB7.out,HALS.out HE.out⟩
        case measure=>simp [intOf];omega
    ·have hkN:k=N:=by omega
     have HKN:=Hd hkN
     have hdk:decide ((k:Int)<(N:Int))=false:=by simp;omega
     clear hkN
     go_wp2_with fail
     go_ret
     exact ⟨aH (HGOOD.out (by rw [←HKN.out];exact HALL.out)).symm,aA HB0.out (aA D3.out HB.out)⟩
end Go.Proofs.YtignkfhdkcgkgaaGreat
