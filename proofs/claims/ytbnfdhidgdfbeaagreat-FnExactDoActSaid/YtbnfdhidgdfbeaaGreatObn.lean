/- Boards that come in: how they read. -/
import Derived.Test.YtbnfdhidgdfbeaaGreatBrd
import Derived.Test.YtbnfdhidgdfbeaaGreatCopy
namespace Go.Proofs.YtbnfdhidgdfbeaaGreat
set_option maxRecDepth 100000
open Go.RowKit Go.ChangeShapes Go.WideShapes Go.ChangeAt

theorem array12 {α:Type} {cs:Array α} (h:cs.size=12):∃c0 c1 c2 c3 c4 c5 c6 c7 c8 c9 c10 c11,cs=#[c0,c1,c2,c3,c4,c5,c6,c7,c8,c9,c10,c11]:=by
 obtain ⟨l⟩:=cs
 match l,h with
 | [c0,c1,c2,c3,c4,c5,c6,c7,c8,c9,c10,c11],_=>exact ⟨c0,c1,c2,c3,c4,c5,c6,c7,c8,c9,c10,c11,rfl⟩
section
variable {H:Type} {enc:TypeId × Value→H} {W:World} {b0 base:Nat} {spare:Nat→Bool} {held:Bool}
theorem trod_struct6 {P:Program} {t:TypeId} {f0 f1 f2 f3 f4 f5:Field} {fuel:Nat} {cs:List Value} {x:DataW H × List MemPlace} (ht:P.underlying t=some (.struct #[f0,f1,f2,f3,f4,f5])) (h:DataW.trod enc P W base spare held fuel t cs=some x) :
  ∃y0 y1 y2 y3 y4 y5 n,DataW.trod enc P W base spare held n f0.type ((cs.drop f0.offset).take (P.cellsOf f0.type))=some y0∧DataW.trod enc P W base spare held n f1.type ((cs.drop f1.offset).take (P.cellsOf f1.type))=some y1 ∧
   DataW.trod enc P W base spare held n f2.type ((cs.drop f2.offset).take (P.cellsOf f2.type))=some y2∧DataW.trod enc P W base spare held n f3.type ((cs.drop f3.offset).take (P.cellsOf f3.type))=some y3 ∧
   DataW.trod enc P W base spare held n f4.type ((cs.drop f4.offset).take (P.cellsOf f4.type))=some y4∧DataW.trod enc P W base spare held n f5.type ((cs.drop f5.offset).take (P.cellsOf f5.type))=some y5:=by
 obtain ⟨xs,n,_,rfl,hl,hlen,hf⟩:=DataW.trod_struct ht h
 match xs,hlen with
 | [y0,y1,y2,y3,y4,y5],_=>exact ⟨y0,y1,y2,y3,y4,y5,n,by simpa using hf 0 f0 rfl,by simpa using hf 1 f1 rfl,by simpa using hf 2 f2 rfl,by simpa using hf 3 f3 rfl,by simpa using hf 4 f4 rfl,by simpa using hf 5 f5 rfl⟩
theorem trod_dev {fuel:Nat} {c0 c1 c2 c3:Value} {y:DataW H × List MemPlace} (h:DataW.trod enc Tryz.prog W base spare held fuel 54 [c0,c1,c2,c3]=some y):∃d:Dev,c0 = .int .i64 d.W∧c1 = .int .i64 d.H∧c2 = .int .i64 d.T∧c3 = .int .i64 d.R:=by
 obtain ⟨y0,y1,y2,y3,n,_,_,h0,h1,h2,h3⟩:=Joins.trod_struct4 Tryz.underlying54 h
 have k:Tryz.prog.cellsOf 3=1:=by kernel_rfl
 simp only [k,List.drop,List.take] at h0 h1 h2 h3
 obtain ⟨a0,e0,_,w0⟩:=DataW.trod_int Tryz.underlying3 h0
 obtain ⟨a1,e1,_,w1⟩:=DataW.trod_int Tryz.underlying3 h1
 obtain ⟨a2,e2,_,w2⟩:=DataW.trod_int Tryz.underlying3 h2
 obtain ⟨a3,e3,_,w3⟩:=DataW.trod_int Tryz.underlying3 h3
 simp only [List.cons.injEq,and_true] at e0 e1 e2 e3
 exact ⟨⟨a0,a1,a2,a3⟩,e0,e1,e2,e3⟩

theorem trod_reg {fuel:Nat} {c0 c1 c2 c3:Value} {y:DataW H × List MemPlace} (h:DataW.trod enc Tryz.prog W base spare held fuel 55 [c0,c1,c2,c3]=some y):∃d:Reg,c0 = .int .i64 d.X0∧c1 = .int .i64 d.Y0∧c2 = .int .i64 d.X1∧c3 = .int .i64 d.Y1:=by
 obtain ⟨y0,y1,y2,y3,n,_,_,h0,h1,h2,h3⟩:=Joins.trod_struct4 Tryz.underlying55 h
 have k:Tryz.prog.cellsOf 3=1:=by kernel_rfl
 simp only [k,List.drop,List.take] at h0 h1 h2 h3
 obtain ⟨a0,e0,_,w0⟩:=DataW.trod_int Tryz.underlying3 h0
 obtain ⟨a1,e1,_,w1⟩:=DataW.trod_int Tryz.underlying3 h1
 obtain ⟨a2,e2,_,w2⟩:=DataW.trod_int Tryz.underlying3 h2
 obtain ⟨a3,e3,_,w3⟩:=DataW.trod_int Tryz.underlying3 h3
 simp only [List.cons.injEq,and_true] at e0 e1 e2 e3
 exact ⟨⟨a0,a1,a2,a3⟩,e0,e1,e2,e3⟩

theorem trod_ints {fuel:Nat} {v:Value} {y:DataW H × List MemPlace} (h:DataW.trod enc Tryz.prog W base (fun _=>true) held fuel 27 [v]=some y):∃(A:Option Addr) (n c:Nat) (xs:List Int),v = .slice A n c∧Ints W A n xs∧n≤maxLen:=by
 rcases open_ints Tryz.underlying27 Tryz.underlying3 (by kernel_rfl) h with ⟨hcs,_⟩|⟨x,l,c',zs,hcs,_,hl,hm,hz,_,hcell,hwz⟩
 ·simp only [List.cons.injEq,and_true] at hcs
  exact ⟨none,0,0,[],hcs,⟨rfl,fun h=>absurd h (by omega)⟩,Nat.zero_le _⟩
 ·simp only [List.cons.injEq,and_true] at hcs
  exact ⟨_,_,_,_,hcs,ints_of hl (by simpa using hz) hcell,Nat.le_trans hl hm⟩
theorem trod_rows {fuel:Nat} {v:Value} {y:DataW H × List MemPlace} (h:DataW.trod enc Tryz.prog W base (fun _=>true) held fuel 26 [v]=some y):∃(A:Option Addr) (n c:Nat) (xss:List (List Int)),v = .slice A n c∧Rows2 W A n xss∧n≤maxLen∧∀ys∈xss,ys.length≤maxLen∧∀y∈ys,Wf y:=by
 rcases Go.Deep.open_int_rows Tryz.underlying26 Tryz.underlying27 Tryz.underlying3 (by kernel_rfl) (by kernel_rfl) h with ⟨hcs,_⟩|⟨a,len,cap,As,L,C,Z,hcs,_,hl,hm,_,hr⟩
 ·simp only [List.cons.injEq,and_true] at hcs
  exact ⟨none,0,0,[],hcs,⟨rfl,fun h=>absurd h (by omega)⟩,Nat.zero_le _,by simp⟩
 ·simp only [List.cons.injEq,and_true] at hcs
  refine ⟨_,_,_,(List.range len).map fun r=>(Z r).take (L r),hcs,⟨by simp,fun hn=>?_⟩,Nat.le_trans hl hm,?_⟩
  ·obtain ⟨h0,_⟩:=hr 0 (by omega)
   rw [add_lit0] at h0
   obtain ⟨b,o,s⟩:=a
   have hs:s=none:=World.cell?_spot h0
   subst hs
   refine ⟨b,o,rfl,cell_lt h0,fun j hj=>?_⟩
   obtain ⟨hc,hLC,hCm,hZ,_,hnone,hsome⟩:=hr j (by omega)
   rw [Addr.add_lit] at hc
   refine ⟨As j,L j,C j,hc,?_⟩
   rw [show ((List.range len).map fun r=>(Z r).take (L r))[j]?.getD []=(Z j).take (L j) by simp [hj]]
   cases hA:As j with
   | none =>
    have hC0:=hnone hA
    have hL0:L j=0:=by omega
    rw [hL0]
    exact ⟨by simp,fun h=>absurd h (by omega)⟩
   | some a'=>exact ints_of hLC hZ fun i hi=>(hsome a' hA).2 i (by omega)
  ·intro ys hys
   simp only [List.mem_map,List.mem_range] at hys
   obtain ⟨r,hrn,rfl⟩:=hys
   obtain ⟨_,hLC,hCm,hZ,hwf,_⟩:=hr r (by omega)
   exact ⟨by rw [List.length_take];omega,fun y hy=>wf_of (hwf y (List.mem_of_mem_take hy))⟩
theorem open_board {v:Value} {d:DataW H} {p:List MemPlace} (hv:Value.okWide Tryz.prog W .any b0 57 v) (h:DataW.Trod enc Tryz.prog W base (fun _=>true) held 57 v d p) :
  ∃(b:Bd) (s:Sl3),v = .agg (bdArr b s)∧BoardRd W b s∧s.n1≤maxLen∧s.n2≤maxLen∧s.n3≤maxLen∧(∀ys∈b.frames,ys.length≤maxLen∧∀y∈ys,Wf y)∧(∀ys∈b.saved,ys.length≤maxLen∧∀y∈ys,Wf y):=by
 obtain ⟨cs,rfl,hsz⟩:=okWide_struct Tryz.underlying57 hv
 have hsz':cs.size=12:=hsz.trans (by kernel_rfl)
 obtain ⟨c0,c1,c2,c3,c4,c5,c6,c7,c8,c9,c10,c11,rfl⟩:=array12 hsz'
 obtain ⟨fuel,hf⟩:=h
 obtain ⟨y0,y1,y2,y3,y4,y5,n,h0,h1,h2,h3,h4,h5⟩:=trod_struct6 Tryz.underlying57 hf
 have k0:Tryz.prog.cellsOf 54=4:=by kernel_rfl
 have k1:Tryz.prog.cellsOf 26=1:=by kernel_rfl
 have k2:Tryz.prog.cellsOf 27=1:=by kernel_rfl
 have k3:Tryz.prog.cellsOf 3=1:=by kernel_rfl
 have k4:Tryz.prog.cellsOf 55=4:=by kernel_rfl
 simp only [Value.cells,k0,k1,k2,k3,k4,List.drop,List.take] at h0 h1 h2 h3 h4 h5
 obtain ⟨dv,rfl,rfl,rfl,rfl⟩:=trod_dev h0
 obtain ⟨A1,n1,m1,xs1,rfl,r1,l1,f1⟩:=trod_rows h1
 obtain ⟨A2,n2,m2,xs2,rfl,r2,l2⟩:=trod_ints h2
 obtain ⟨a3,e3,_,w3⟩:=DataW.trod_int Tryz.underlying3 h3
 obtain ⟨rg,rfl,rfl,rfl,rfl⟩:=trod_reg h4
 obtain ⟨A5,n5,m5,xs5,rfl,r5,l5,f5⟩:=trod_rows h5
 simp only [List.cons.injEq,and_true] at e3
 subst e3
 exact ⟨⟨dv,xs1,xs2,a3,rg,xs5⟩,⟨A1,n1,m1,A2,n2,m2,A5,n5,m5⟩,rfl,⟨r1,r2,r5⟩,l1,l2,l5,f1,f5⟩
end
set_option maxHeartbeats 1000000 in
theorem szBoard_any (b:Bd) (s:Sl3) (w:World) (h:BoardRd w b s) (m1:s.n1≤9223372036854775807) (m2:s.n2≤9223372036854775807) (m3:s.n3≤9223372036854775807) (q1:∀j:Nat,(b.frames[j]?.getD []).length≤9223372036854775807) (q3:∀j:Nat,(b.saved[j]?.getD []).length≤9223372036854775807) :
  Calls Tryz.prog 30 #[.agg (bdArr b s),.int .i64 1048576] w fun e w'=>∃x:Int,e = .returned (.int .i64 x)∧(x<0∨0≤x∧x≤1048576∧size2 b.frames+s.n2+size2 b.saved≤1048576)∧Below w.heap.size w w':=by
 have HI:=Lib.hid h
 have Q1:=Lib.hid q1
 have Q3:=Lib.hid q3
 have hb0:Below w.heap.size w (w.alloc (.cells (bdArr b s) 57)):=below_new (Below.refl _ _) _
 have HB:=Lib.hid hb0
 clear h q1 q3 hb0
 go_enter Tryz.func30,Tryz.ntmps30
 go_wp2_with fail
 refine (szIntSS_any s.A1 s.n1 s.c1 b.frames 1048576 _ (HI.out.frames.below HB.out) (by omega) (by omega) (by omega) Q1.out).mono ?_
 rintro e w' ⟨rfl,rfl⟩
 by_cases g1:(size2 b.frames:Int)≤1048576
 ·rw [leftOf_pos g1]
  have e1:decide (1048576 - (size2 b.frames:Int)<0)=false:=by simp;omega
  go_wp2_with fail
  refine (szIntS_any s.A2 s.n2 s.c2 _ _ (by omega) (by omega) (by omega)).mono ?_
  rintro e w' ⟨rfl,rfl⟩
  by_cases g2:(s.n2:Int)≤1048576 - (size2 b.frames:Int)
  ·rw [leftOf_pos g2]
   have e2:decide (1048576 - (size2 b.frames:Int) - (s.n2:Int)<0)=false:=by simp;omega
   clear e1
   go_wp2_with fail
   refine (szIntSS_any s.A3 s.n3 s.c3 b.saved _ _ (HI.out.saved.below HB.out) (by omega) (by omega) (by omega) Q3.out).mono ?_
   rintro e w' ⟨rfl,rfl⟩
   by_cases g3:(size2 b.saved:Int)≤1048576 - (size2 b.frames:Int) - (s.n2:Int)
   ·rw [leftOf_pos g3]
    have e3:decide (1048576 - (size2 b.frames:Int) - (s.n2:Int) - (size2 b.saved:Int)<0)=false:=by simp;omega
    clear e2
    go_wp2_with fail
    go_ret
    exact ⟨_,rfl,.inr ⟨by omega,by omega,by omega⟩,HB.out⟩
   ·rw [leftOf_neg g3]
    clear e2
    go_wp2_with fail
    go_ret
    exact ⟨_,rfl,.inl (by decide),HB.out⟩
  ·rw [leftOf_neg g2]
   clear e1
   go_wp2_with fail
   go_ret
   exact ⟨_,rfl,.inl (by decide),HB.out⟩
 ·rw [leftOf_neg g1]
  go_wp2_with fail
  go_ret
  exact ⟨_,rfl,.inl (by decide),HB.out⟩
end Go.Proofs.YtbnfdhidgdfbeaaGreat
