/- Networks of look-up tables as nested memory. -/
import Derived.Deep.CutRange
import Derived.Deep.DeepCutAuto
import Derived.Test.YtofihjoanjkdmaaGreatLnB
import Derived.Test.YtofihjoanjkdmaaGreatSep
namespace Go.Proofs.YtofihjoanjkdmaaGreat
set_option maxHeartbeats 400000
set_option maxRecDepth 100000
open Go.RowKit
/-! ### networks -/
def Lt.cells (l:Lt):List Cel:=[aH l.ins,.int l.mask]
def Sq.cells (s:Sq):List Cel:=[.int s.kind,.int s.init,aH s.ins]
def bM (g:List Lt):Cel := .row 96 2 (g.flatMap Lt.cells)
def bD (ss:List Sq):Cel := .row 91 3 (ss.flatMap Sq.cells)
theorem Lt.cells_length (l:Lt):l.cells.length=2:=rfl
theorem Sq.cells_length (s:Sq):s.cells.length=3:=rfl
theorem jr {α:Type} {f:α→List Cel} {s:Nat} (hf:∀x,(f x).length=s) (xs:List α):(xs.flatMap f).length=xs.length * s:=by rw [tX hf,Nat.mul_comm]
theorem vX {α:Type} {f:α→List Cel} {s:Nat} (hf:∀x,(f x).length=s) {xs:List α} {k j:Nat} {x:α} (h:xs[k]?=some x) (hj:j<s):(xs.flatMap f)[k * s+j]?=(f x)[j]?:=by rw [Nat.mul_comm];exact uX hf h hj
theorem aJ.consBlk {W w:World} {ps:List Pc} (h:aJ W w ps) (cs:Array Value) (t:TypeId):aJ W (w.alloc (.cells cs t)) (.blk w.heap.size cs t :: ps) :=
 h.cons (aB (Below.refl _ _) _) (G:=[w.heap.size]) ⟨rfl,by simp,aI _ _,fun g j e h=>e.trans h⟩ (by simp) (by simp)
theorem aJ.setI {W w:World} {ps:List Pc} (S:aJ W w ps) (j:Nat) {n c i:Nat} {A:Option Addr} {xs:List Int} (hj:ps[j]?=some (.cel (aH xs) (.slice A n c))) (hi:i<n) :
  ∃g,A=some ⟨g,0,none⟩/\W.heap.size<=g/\g<w.heap.size/\w.cell? ⟨g,i,none⟩=some (.int .i64 (xs[i]?.getD 0))/\w.frozen? ⟨g,i,none⟩=false /\
   ∀y:Int,aJ W (w.setCell ⟨g,i,none⟩ (.int .i64 y)) (ps.set j (.cel (aH (xs.set i y)) (.slice A n c))):=by
 have hl:=(S.ints j hj).1
 have u:xs[i]?=some (xs[i]?.getD 0):=by rw [List.getElem?_eq_getElem (by omega)];rfl
 obtain ⟨g,h1,h2,h3,h4,h5,q⟩:=S.num j (i:=i) (x:=xs[i]?.getD 0) hj (by rw [List.getElem?_map,u];rfl)
 exact ⟨g,h1,h2,h3,h4,h5,fun y=>by have:=q y;rwa [←List.map_set] at this⟩
theorem RdC.lut' {w:World} {B n c k:Nat} {A:Option Addr} {xs:List Lt} (h:RdC w B (bM xs) (.slice A n c)) (hk:k<xs.length) :
  ∃b o S m p,A=some ⟨b,o,none⟩/\b<B/\w.cell? ⟨b,o+k * 2,none⟩=some (.slice S m p)/\w.cell? ⟨b,o+k * 2+1,none⟩=some (.int .i64 (xs[k]?.getD Lt.zero).mask)/\RdC w B (aH (xs[k]?.getD Lt.zero).ins) (.slice S m p):=by
 have hl:=jr Lt.cells_length xs
 obtain ⟨b,o,rfl,I,hc⟩:=h.cell (by rw [hl];omega)
 have H:=getD_some Lt.zero hk
 generalize xs[k]?.getD Lt.zero=t at *
 have g:=fun (j:Nat) (hj:j<2)=>hc (k * 2+j) (by rw [hl];omega)
 obtain ⟨J,Q,q,D,z⟩:=g 0 (by omega)
 obtain ⟨c1,K,e1,G,u⟩:=g 1 (by omega)
 rw [vX Lt.cells_length H (by omega)] at q e1
 simp only [Lt.cells,List.getElem?_cons_zero,List.getElem?_cons_succ,Option.some.injEq] at q e1
 subst q e1
 rw [jV] at u
 subst u
 obtain ⟨S,m,p,rfl⟩:=eu (e:=3) (s:=1) z
 exact ⟨b,o,S,m,p,rfl,I,D,G,z⟩
theorem RdC.lutN' {w:World} {B n c:Nat} {A:Option Addr} {xs:List Lt} (h:RdC w B (bM xs) (.slice A n c)):xs.length=n:=by
 have:=RdC.len h
 rw [jr Lt.cells_length] at this
 omega
theorem RdC.sq' {w:World} {B n c k:Nat} {A:Option Addr} {xs:List Sq} (h:RdC w B (bD xs) (.slice A n c)) (hk:k<xs.length) :
  ∃b o S m p,A=some ⟨b,o,none⟩/\b<B/\w.cell? ⟨b,o+k * 3,none⟩=some (.int .i64 (xs[k]?.getD Sq.zero).kind)/\w.cell? ⟨b,o+k * 3+1,none⟩=some (.int .i64 (xs[k]?.getD Sq.zero).init)/\w.cell? ⟨b,o+k * 3+2,none⟩=some (.slice S m p)/\RdC w B (aH (xs[k]?.getD Sq.zero).ins) (.slice S m p):=by
 have hl:=jr Sq.cells_length xs
 obtain ⟨b,o,rfl,K,hc⟩:=h.cell (by rw [hl];omega)
 have J:=getD_some Sq.zero hk
 generalize xs[k]?.getD Sq.zero=t at *
 have g:=fun (j:Nat) (hj:j<3)=>hc (k * 3+j) (by rw [hl];omega)
 obtain ⟨Q,V,q,G,D⟩:=g 0 (by omega)
 obtain ⟨c1,U,e1,I,z⟩:=g 1 (by omega)
 obtain ⟨c2,R,e2,H,u⟩:=g 2 (by omega)
 rw [vX Sq.cells_length J (by omega)] at q e1 e2
 simp only [Sq.cells,List.getElem?_cons_zero,List.getElem?_cons_succ,Option.some.injEq] at q e1 e2
 subst q e1 e2
 rw [jV] at D z
 subst D z
 obtain ⟨S,m,p,rfl⟩:=eu (e:=3) (s:=1) u
 exact ⟨b,o,S,m,p,rfl,K,G,I,H,u⟩
theorem RdC.sqN' {w:World} {B n c:Nat} {A:Option Addr} {xs:List Sq} (h:RdC w B (bD xs) (.slice A n c)):xs.length=n:=by
 have:=RdC.len h
 rw [jr Sq.cells_length] at this
 omega
abbrev jE (l:ag) (SA LA OA:Option Addr) (sn sc ln lc on oc:Nat):Value := .agg #[.int .i64 l.inputs,.slice SA sn sc,.slice LA ln lc,.slice OA on oc]
abbrev ai (l:ag) (SA LA OA:Option Addr) (sn sc ln lc on oc:Nat):Array Value:=#[.int .i64 l.inputs,.slice SA sn sc,.slice LA ln lc,.slice OA on oc]
structure fU (w:World) (l:ag) (SA LA OA:Option Addr) (sn sc ln lc on oc:Nat):Prop where
 sq:RdC w w.heap.size (bD l.seqs) (.slice SA sn sc)
 lt:RdC w w.heap.size (bM l.luts) (.slice LA ln lc)
 ou:RdC w w.heap.size (aH l.outs) (.slice OA on oc)
theorem fU.below {w w':World} {l:ag} {SA LA OA:Option Addr} {sn sc ln lc on oc:Nat} (h:fU w l SA LA OA sn sc ln lc on oc) (g:Below w.heap.size w w'):fU w' l SA LA OA sn sc ln lc on oc:=⟨h.sq.below g,h.lt.below g,h.ou.below g⟩
theorem fU.lens {w:World} {l:ag} {SA LA OA:Option Addr} {sn sc ln lc on oc:Nat} (h:fU w l SA LA OA sn sc ln lc on oc):l.seqs.length=sn/\l.luts.length=ln/\l.outs.length=on:=⟨h.sq.sqN',h.lt.lutN',h.ou.ints.1⟩
theorem tJ (g:Int) (SA LA OA:Option Addr) (sn sc ln lc on oc:Nat) (w:World) (h0:0<=g) (h1:g<=1099511627776) (h2:sn<=1099511627776) (h3:ln<=1099511627776) :
  Calls Tryz.prog 247 #[.agg #[.int .i64 g,.slice SA sn sc,.slice LA ln lc,.slice OA on oc]] w fun e w'=>e = .returned (.int .i64 (1+g+(sn:Int)+(ln:Int)))/\Below w.heap.size w w':=by
 go_enter Tryz.func247,Tryz.ntmps247
 go_wp2
 go_ret
 exact ⟨rfl,aB (Below.refl _ _) _⟩
end Go.Proofs.YtofihjoanjkdmaaGreat
