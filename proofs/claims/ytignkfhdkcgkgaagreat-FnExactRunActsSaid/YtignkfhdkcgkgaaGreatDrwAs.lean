/- Draws of acts (printed by mkdrwa.py). -/
import Derived.Test.YtignkfhdkcgkgaaGreatDaS
import Derived.Test.YtignkfhdkcgkgaaGreatDrwBd
namespace Go.Proofs.YtignkfhdkcgkgaaGreat
set_option maxRecDepth 100000
open Go.RowKit Cw
def Ac.cells (x:Ac):List Cel:=[.int x.kind,.int x.A,.int x.B,.int x.C,.int x.reg.X0,.int x.reg.Y0,.int x.reg.X1,.int x.reg.Y1,ig x.words]
def G7 (xs:List Ac):Cel := .row 74 9 (xs.flatMap Ac.cells)
theorem Ac.cells_length (x:Ac):x.cells.length=9:=rfl
def GU (w:World) (g:Nat) (y:Ac) (WA:Option Addr) (wn wc:Nat):Prop:=w.heap[g]?=some (.cells (dJ y WA wn wc) 74 (0,0))
structure ASt (w wr:World) (g B:Nat) (A:Option Addr) (n c:Nat) (bs:List Int) (b:Bd) (s:Sl3) (ga:Nat) (y:Ac) (WA:Option Addr) (wn wc:Nat):Prop where
 cur:Cur wr g B A n c bs
 grown:w.grownBy wr (some g)
 bd:bC wr w.heap.size b s
 res:GU wr (w.heap.size+1) Ac.zero none 0 0
 at_:GU wr ga y WA wn wc
 own:Own w.heap.size wr WA wn wc y.words
 apart:∀a,WA=some a→ga<a.block
 le:wn<=11
 o1:g<w.heap.size
 o2:w.heap.size+1<ga
section
variable {w wr w':World} {g B:Nat} {A:Option Addr} {n c:Nat} {bs:List Int} {b:Bd} {s:Sl3} {ga:Nat} {y:Ac} {WA:Option Addr} {wn wc:Nat}
theorem ASt.below (h:ASt w wr g B A n c bs b s ga y WA wn wc) (hb:Below wr.heap.size wr w'):ASt w w' g B A n c bs b s ga y WA wn wc :=
 ⟨h.cur.below hb,oD h.grown hb h.grown.size,h.bd.tr hb,aF hb h.res,aF hb h.at_,h.own.below hb,h.apart,h.le,h.o1,h.o2⟩
theorem ASt.new {w0 w2:World} {y:Ac} (hgw:g<w.heap.size) (hs:w.heap.size+2<=w2.heap.size) (hb:Below w.heap.size w w0) (k2:Cur w2 g B A n c bs) (g2:w0.grownBy w2 (some g)) (hx:bC w0 w.heap.size b s) (hy:GU w0 (w.heap.size+1) Ac.zero none 0 0) (hw:y.words=[]) :
  ASt w (w2.alloc (.cells (dJ y none 0 0) 74)) g B A n c bs b s w2.heap.size y none 0 0:=by
 have hb3:Below w2.heap.size w2 (w2.alloc (.cells (dJ y none 0 0) 74)):=aB (Below.refl _ _) _
 have h1:bC w2 w.heap.size b s:=(lS g2 (aX hx) (by omega)).trans hx
 have h2:GU w2 (w.heap.size+1) Ac.zero none 0 0:=(lS g2 (aX hy) (by omega)).trans hy
 exact ⟨k2.below hb3,oD (qy (nY hb _) g2) hb3 (by omega),h1.tr hb3,aF hb3 h2,aL _ _,by rw [hw];exact Own.nil,by rintro a ⟨⟩,by omega,hgw,by omega⟩
theorem ASt.put {k:Nat} {v:Value} {y':Ac} {WA':Option Addr} {wn' wc':Nat} (h:ASt w wr g B A n c bs b s ga y WA wn wc) (e:(dJ y WA wn wc).setIfInBounds k v=dJ y' WA' wn' wc') (ho:Own w.heap.size wr WA' wn' wc' y'.words) (ha:∀a,WA'=some a→ga<a.block) (hle:wn'<=11) :
  ASt w (wr.setCell ⟨ga,k,none⟩ v) g B A n c bs b s ga y' WA' wn' wc':=by
 have o1:=h.o1
 have o2:=h.o2
 refine ⟨h.cur.setNew (by omega) k v,wL h.grown (by omega) k v,h.bd.far (p:=⟨ga,k,none⟩) (by simp only;omega) v,gp (p:=⟨ga,k,none⟩) h.res (by simp only;omega) v,bD (k:=k) h.at_ v e,?_,ha,hle,o1,o2⟩
 exact aa ho fun a haa=>mr (p:=⟨ga,k,none⟩) (by have:=ha a haa;simp only;omega) v
theorem ASt.num {k:Nat} {v:Value} {y':Ac} (h:ASt w wr g B A n c bs b s ga y WA wn wc) (e:(dJ y WA wn wc).setIfInBounds k v=dJ y' WA wn wc) (hw:y'.words=y.words):ASt w (wr.setCell ⟨ga,k,none⟩ v) g B A n c bs b s ga y' WA wn wc :=
 h.put e (by rw [hw];exact h.own) h.apart h.le
end
theorem iM.take {w:World} {A:Option Addr} {n k:Nat} {xs:List Ac} (h:iM w A n xs) (hk:k<=n):iM w A k (xs.take k):=by
 obtain ⟨h1,h2⟩:=h
 refine ⟨by rw [List.length_take];omega,fun hn=>?_⟩
 obtain ⟨b,o,e,hb,hc⟩:=h2 (by omega)
 refine ⟨b,o,e,hb,fun j hj=>?_⟩
 have:=hc j (by omega)
 rwa [show (xs.take k)[j]?=xs[j]? by rw [List.getElem?_take,if_pos hj]]
theorem iM.drop {w:World} {b o n k:Nat} {xs:List Ac} (h:iM w (some ⟨b,o,none⟩) n xs) (hk:k<=n):iM w (some ⟨b,o+k * 9,none⟩) (n - k) (xs.drop k):=by
 obtain ⟨h1,h2⟩:=h
 refine ⟨by rw [List.length_drop];omega,fun hn=>?_⟩
 obtain ⟨b',o',e,hb,hc⟩:=h2 (by omega)
 injection e with e
 injection e with e1 e2 _
 subst e1 e2
 refine ⟨b,o+k * 9,rfl,hb,fun j hj=>?_⟩
 have:=hc (k+j) (by omega)
 rw [show (xs.drop k)[j]?=xs[k+j]? by rw [List.getElem?_drop]]
 rwa [show o+(k+j) * 9=o+k * 9+j * 9 by omega] at this
theorem FU:(Tryz.prog.info? 74).map (fun i=>(i.zero,i.size,i.bytes))=some (some (.agg #[.int .i64 0,.int .i64 0,.int .i64 0,.int .i64 0,.int .i64 0,.int .i64 0,.int .i64 0,.int .i64 0,.slice none 0 0]),9,88):=by kernel_rfl
theorem EY {w:World} {base:Nat} {x:Ac} {WA:Option Addr} {wn wc:Nat} (ow:Own base w WA wn wc x.words):dP base w.heap.size w x.cells (dJ x WA wn wc).toList:=by
 obtain ⟨F,h1,h2,h3⟩:=ow.tree (Nat.le_refl _)
 refine ⟨F,?_,h2,h3⟩
 have one:∀(a:Int) {cs:List Cel} {vs:List Value},fO w cs vs F→fO w (.int a :: cs) (.int .i64 a :: vs) F:=fun a cs vs h=>bz.2 ⟨_,_,[],F,rfl,rfl,fo.2 ⟨rfl,rfl⟩,h⟩
 exact one _ (one _ (one _ (one _ (one _ (one _ (one _ (one _ (bz.2 ⟨_,_,F,[],rfl,(List.append_nil _).symm,h1,eX.2 ⟨rfl,rfl⟩⟩))))))))
theorem vX {xs:List Ac} {k j:Nat} {x:Ac} (h:xs[k]?=some x) (hj:j<9):(xs.flatMap Ac.cells)[k * 9+j]?=x.cells[j]?:=by
 induction xs generalizing k with
 | nil=>simp at h
 | cons y ys ih =>
  rw [List.flatMap_cons]
  cases k with
  | zero =>
   simp only [List.getElem?_cons_zero,Option.some.injEq] at h
   subst h
   rw [Nat.zero_mul,Nat.zero_add,List.getElem?_append_left (by rw [Ac.cells_length];exact hj)]
  | succ k =>
   rw [List.getElem?_append_right (by rw [Ac.cells_length];omega),Ac.cells_length,show (k+1) * 9+j - 9=k * 9+j by omega]
   exact ih (by simpa using h)
theorem lK {lo hi:Nat} {w:World} {A:Option Addr} {n c:Nat} {xs:List Ac} (h:eB lo hi w (G7 xs) (.slice A n c)):iM w A n xs:=by
 have hr:=h.rd
 have hl:=qH (f:=Ac.cells) Ac.cells_length xs
 have hn:xs.length=n:=by
  have:=hr.len
  rw [hl] at this
  omega
 refine ⟨hn,fun h0=>?_⟩
 obtain ⟨b,o,e,hb,hc⟩:=hr.cell (by rw [hl];omega)
 refine ⟨b,o,e,hb,fun j hj=>?_⟩
 have hx:=getD_some Ac.zero (show j<xs.length by omega)
 generalize xs[j]?.getD Ac.zero=x at *
 have g:=fun (i:Nat) (hi:i<9)=>hc (j * 9+i) (by rw [hl];omega)
 have fl:=fun (i:Nat) (hi:i<9)=>vX hx hi
 obtain ⟨c0,v0,e0,m0,r0⟩:=g 0 (by omega)
 obtain ⟨c1,v1,e1,m1,r1⟩:=g 1 (by omega)
 obtain ⟨c2,v2,e2,m2,r2⟩:=g 2 (by omega)
 obtain ⟨c3,v3,e3,m3,r3⟩:=g 3 (by omega)
 obtain ⟨c4,v4,e4,m4,r4⟩:=g 4 (by omega)
 obtain ⟨c5,v5,e5,m5,r5⟩:=g 5 (by omega)
 obtain ⟨c6,v6,e6,m6,r6⟩:=g 6 (by omega)
 obtain ⟨c7,v7,e7,m7,r7⟩:=g 7 (by omega)
 obtain ⟨c8,v8,e8,m8,r8⟩:=g 8 (by omega)
 rw [fl 0 (by omega)] at e0
 rw [fl 1 (by omega)] at e1
 rw [fl 2 (by omega)] at e2
 rw [fl 3 (by omega)] at e3
 rw [fl 4 (by omega)] at e4
 rw [fl 5 (by omega)] at e5
 rw [fl 6 (by omega)] at e6
 rw [fl 7 (by omega)] at e7
 rw [fl 8 (by omega)] at e8
 simp only [Ac.cells,List.getElem?_cons_zero,List.getElem?_cons_succ,Option.some.injEq] at e0 e1 e2 e3 e4 e5 e6 e7 e8
 subst e0 e1 e2 e3 e4 e5 e6 e7 e8
 rw [oH] at r0 r1 r2 r3 r4 r5 r6 r7
 subst r0 r1 r2 r3 r4 r5 r6 r7
 rw [←Nat.add_assoc] at m1
 rw [←Nat.add_assoc] at m2
 rw [←Nat.add_assoc] at m3
 rw [←Nat.add_assoc] at m4
 rw [←Nat.add_assoc] at m5
 rw [←Nat.add_assoc] at m6
 rw [←Nat.add_assoc] at m7
 rw [←Nat.add_assoc] at m8
 rw [Nat.add_zero] at m0
 obtain ⟨WA,wn,wc,rfl⟩:=qQ (e:=3) (s:=1) r8
 exact ⟨WA,wn,wc,m0,m1,m2,m3,m4,m5,m6,m7,m8,r8.ints⟩
end Go.Proofs.YtignkfhdkcgkgaaGreat
