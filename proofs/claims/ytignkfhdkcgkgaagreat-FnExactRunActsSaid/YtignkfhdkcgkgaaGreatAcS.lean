/- Boards that come in: how they read. -/
import Derived.Test.YtignkfhdkcgkgaaGreatBkS
namespace Go.Proofs.YtignkfhdkcgkgaaGreat
set_option maxHeartbeats 4000000
set_option maxRecDepth 100000
open Go.RowKit Go.ChangeShapes Go.WideShapes Go.ChangeAt
theorem Gl {α:Type} {cs:Array α} (h:cs.size=12):∃c0 c1 c2 c3 c4 c5 c6 c7 c8 c9 c10 c11,cs=#[c0,c1,c2,c3,c4,c5,c6,c7,c8,c9,c10,c11]:=by
 obtain ⟨l⟩:=cs
 match l,h with
 | [c0,c1,c2,c3,c4,c5,c6,c7,c8,c9,c10,c11],_=>exact ⟨c0,c1,c2,c3,c4,c5,c6,c7,c8,c9,c10,c11,rfl⟩
section
variable {H:Type} {enc:TypeId × Value→H} {W:World} {b0 base:Nat} {spare:Nat→Bool} {held:Bool}
theorem sw {P:Program} {t:TypeId} {f0 f1 f2 f3 f4 f5:Field} {fuel:Nat} {cs:List Value} {x:DataW H × List MemPlace} (ht:P.underlying t=some (.struct #[f0,f1,f2,f3,f4,f5])) (h:DataW.trod enc P W base spare held fuel t cs=some x) :
  ∃y0 y1 y2 y3 y4 y5 n,DataW.trod enc P W base spare held n f0.type ((cs.drop f0.offset).take (P.cellsOf f0.type))=some y0/\DataW.trod enc P W base spare held n f1.type ((cs.drop f1.offset).take (P.cellsOf f1.type))=some y1 /\
   DataW.trod enc P W base spare held n f2.type ((cs.drop f2.offset).take (P.cellsOf f2.type))=some y2/\DataW.trod enc P W base spare held n f3.type ((cs.drop f3.offset).take (P.cellsOf f3.type))=some y3 /\
   DataW.trod enc P W base spare held n f4.type ((cs.drop f4.offset).take (P.cellsOf f4.type))=some y4/\DataW.trod enc P W base spare held n f5.type ((cs.drop f5.offset).take (P.cellsOf f5.type))=some y5:=by
 obtain ⟨xs,n,_,rfl,hl,hlen,hf⟩:=DataW.trod_struct ht h
 match xs,hlen with
 | [y0,y1,y2,y3,y4,y5],_=>exact ⟨y0,y1,y2,y3,y4,y5,n,by simpa using hf 0 f0 rfl,by simpa using hf 1 f1 rfl,by simpa using hf 2 f2 rfl,by simpa using hf 3 f3 rfl,by simpa using hf 4 f4 rfl,by simpa using hf 5 f5 rfl⟩
theorem Fx {fuel:Nat} {c0 c1 c2 c3:Value} {y:DataW H × List MemPlace} (h:DataW.trod enc Tryz.prog W base spare held fuel 41 [c0,c1,c2,c3]=some y):∃d:Dev,c0 = .int .i64 d.W/\c1 = .int .i64 d.H/\c2 = .int .i64 d.T/\c3 = .int .i64 d.R:=by
 obtain ⟨y0,y1,y2,y3,n,_,_,h0,h1,h2,h3⟩:=Joins.trod_struct4 Tryz.underlying41 h
 have k:Tryz.prog.cellsOf 3=1:=by kernel_rfl
 simp only [k,List.drop,List.take] at h0 h1 h2 h3
 obtain ⟨a0,e0,_,w0⟩:=DataW.trod_int Tryz.underlying3 h0
 obtain ⟨a1,e1,_,w1⟩:=DataW.trod_int Tryz.underlying3 h1
 obtain ⟨a2,e2,_,w2⟩:=DataW.trod_int Tryz.underlying3 h2
 obtain ⟨a3,e3,_,w3⟩:=DataW.trod_int Tryz.underlying3 h3
 simp only [List.cons.injEq,and_true] at e0 e1 e2 e3
 exact ⟨⟨a0,a1,a2,a3⟩,e0,e1,e2,e3⟩
theorem BF {fuel:Nat} {c0 c1 c2 c3:Value} {y:DataW H × List MemPlace} (h:DataW.trod enc Tryz.prog W base spare held fuel 42 [c0,c1,c2,c3]=some y):∃d:Reg,c0 = .int .i64 d.X0/\c1 = .int .i64 d.Y0/\c2 = .int .i64 d.X1/\c3 = .int .i64 d.Y1:=by
 obtain ⟨y0,y1,y2,y3,n,_,_,h0,h1,h2,h3⟩:=Joins.trod_struct4 Tryz.underlying42 h
 have k:Tryz.prog.cellsOf 3=1:=by kernel_rfl
 simp only [k,List.drop,List.take] at h0 h1 h2 h3
 obtain ⟨a0,e0,_,w0⟩:=DataW.trod_int Tryz.underlying3 h0
 obtain ⟨a1,e1,_,w1⟩:=DataW.trod_int Tryz.underlying3 h1
 obtain ⟨a2,e2,_,w2⟩:=DataW.trod_int Tryz.underlying3 h2
 obtain ⟨a3,e3,_,w3⟩:=DataW.trod_int Tryz.underlying3 h3
 simp only [List.cons.injEq,and_true] at e0 e1 e2 e3
 exact ⟨⟨a0,a1,a2,a3⟩,e0,e1,e2,e3⟩
theorem xk {fuel:Nat} {v:Value} {y:DataW H × List MemPlace} (h:DataW.trod enc Tryz.prog W base (fun _=>true) held fuel 27 [v]=some y):∃(A:Option Addr) (n c:Nat) (xs:List Int),v = .slice A n c/\bH W A n xs/\n<=maxLen:=by
 rcases open_ints Tryz.underlying27 Tryz.underlying3 (by kernel_rfl) h with ⟨hcs,_⟩|⟨x,l,c',zs,hcs,_,hl,hm,hz,_,hcell,hwz⟩
 ·simp only [List.cons.injEq,and_true] at hcs
  exact ⟨none,0,0,[],hcs,⟨rfl,fun h=>absurd h (by omega)⟩,Nat.zero_le _⟩
 ·simp only [List.cons.injEq,and_true] at hcs
  exact ⟨_,_,_,_,hcs,EF hl (by simpa using hz) hcell,Nat.le_trans hl hm⟩
theorem xm {fuel:Nat} {v:Value} {y:DataW H × List MemPlace} (h:DataW.trod enc Tryz.prog W base (fun _=>true) held fuel 26 [v]=some y):∃(A:Option Addr) (n c:Nat) (xss:List (List Int)),v = .slice A n c/\dZ W A n xss/\n<=maxLen/\∀ys∈xss,ys.length<=maxLen/\∀y∈ys,Wf y:=by
 rcases Go.Deep.open_int_rows Tryz.underlying26 Tryz.underlying27 Tryz.underlying3 (by kernel_rfl) (by kernel_rfl) h with ⟨hcs,_⟩|⟨a,len,cap,As,L,C,Z,hcs,_,hl,hm,_,hr⟩
 ·simp only [List.cons.injEq,and_true] at hcs
  exact ⟨none,0,0,[],hcs,⟨rfl,fun h=>absurd h (by omega)⟩,Nat.zero_le _,by simp⟩
 ·simp only [List.cons.injEq,and_true] at hcs
  refine ⟨_,_,_,(List.range len).map fun r=>(Z r).take (L r),hcs,⟨by simp,fun hn=>?_⟩,Nat.le_trans hl hm,?_⟩
  ·obtain ⟨h0,_⟩:=hr 0 (by omega)
   rw [BM] at h0
   obtain ⟨b,o,s⟩:=a
   have hs:s=none:=World.cell?_spot h0
   subst hs
   refine ⟨b,o,rfl,vI h0,fun j hj=>?_⟩
   obtain ⟨hc,hLC,hCm,hZ,_,hnone,hsome⟩:=hr j (by omega)
   rw [Addr.add_lit] at hc
   refine ⟨As j,L j,C j,hc,?_⟩
   rw [show ((List.range len).map fun r=>(Z r).take (L r))[j]?.getD []=(Z j).take (L j) by simp [hj]]
   cases hA:As j with
   | none =>
    have hC0:=hnone hA
    have hL0:L j=0:=by omega
    rw [hL0]
    exact ⟨by simp,fun h=>absurd h (by omega)⟩
   | some a'=>exact EF hLC hZ fun i hi=>(hsome a' hA).2 i (by omega)
  ·intro ys hys
   simp only [List.mem_map,List.mem_range] at hys
   obtain ⟨r,hrn,rfl⟩:=hys
   obtain ⟨_,hLC,hCm,hZ,hwf,_⟩:=hr r (by omega)
   exact ⟨by rw [List.length_take];omega,fun y hy=>IE (hwf y (List.mem_of_mem_take hy))⟩
theorem Cf {v:Value} {d:DataW H} {p:List MemPlace} (hv:Value.okWide Tryz.prog W .any b0 44 v) (h:DataW.Trod enc Tryz.prog W base (fun _=>true) held 44 v d p) :
  ∃(b:Bd) (s:Sl3),v = .agg (aD b s)/\bV W b s/\s.n1<=maxLen/\s.n2<=maxLen/\s.n3<=maxLen/\(∀ys∈b.frames,ys.length<=maxLen/\∀y∈ys,Wf y)/\(∀ys∈b.saved,ys.length<=maxLen/\∀y∈ys,Wf y):=by
 obtain ⟨cs,rfl,hsz⟩:=okWide_struct Tryz.underlying44 hv
 have hsz':cs.size=12:=hsz.trans (by kernel_rfl)
 obtain ⟨c0,c1,c2,c3,c4,c5,c6,c7,c8,c9,c10,c11,rfl⟩:=Gl hsz'
 obtain ⟨fuel,hf⟩:=h
 obtain ⟨y0,y1,y2,y3,y4,y5,n,h0,h1,h2,h3,h4,h5⟩:=sw Tryz.underlying44 hf
 have k0:Tryz.prog.cellsOf 41=4:=by kernel_rfl
 have k1:Tryz.prog.cellsOf 26=1:=by kernel_rfl
 have k2:Tryz.prog.cellsOf 27=1:=by kernel_rfl
 have k3:Tryz.prog.cellsOf 3=1:=by kernel_rfl
 have k4:Tryz.prog.cellsOf 42=4:=by kernel_rfl
 simp only [Value.cells,k0,k1,k2,k3,k4,List.drop,List.take] at h0 h1 h2 h3 h4 h5
 obtain ⟨dv,rfl,rfl,rfl,rfl⟩:=Fx h0
 obtain ⟨A1,n1,m1,xs1,rfl,r1,l1,f1⟩:=xm h1
 obtain ⟨A2,n2,m2,xs2,rfl,r2,l2⟩:=xk h2
 obtain ⟨a3,e3,_,w3⟩:=DataW.trod_int Tryz.underlying3 h3
 obtain ⟨rg,rfl,rfl,rfl,rfl⟩:=BF h4
 obtain ⟨A5,n5,m5,xs5,rfl,r5,l5,f5⟩:=xm h5
 simp only [List.cons.injEq,and_true] at e3
 subst e3
 exact ⟨⟨dv,xs1,xs2,a3,rg,xs5⟩,⟨A1,n1,m1,A2,n2,m2,A5,n5,m5⟩,rfl,⟨r1,r2,r5⟩,l1,l2,l5,f1,f5⟩
end
theorem BG (b:Bd) (s:Sl3) (w:World) (h:bV w b s) (m1:s.n1<=9223372036854775807) (m2:s.n2<=9223372036854775807) (m3:s.n3<=9223372036854775807) (q1:∀j:Nat,(b.frames[j]?.getD []).length<=9223372036854775807) (q3:∀j:Nat,(b.saved[j]?.getD []).length<=9223372036854775807) :
  Calls Tryz.prog 14 #[.agg (aD b s),.int .i64 1048576] w fun e w'=>∃x:Int,e = .returned (.int .i64 x)/\(x<0∨0<=x/\x<=1048576/\af b.frames+s.n2+af b.saved<=1048576)/\Below w.heap.size w w':=by
 have HI:=Hd h
 have Q1:=Hd q1
 have Q3:=Hd q3
 have hb0:Below w.heap.size w (w.alloc (.cells (aD b s) 44)):=aB (Below.refl _ _) _
 have HB:=Hd hb0
 clear h q1 q3 hb0
 go_enter Tryz.func14,Tryz.ntmps14
 go_wp2_with fail
 refine (uZ s.A1 s.n1 s.c1 b.frames 1048576 _ (HI.out.frames.below HB.out) (by omega) (by omega) (by omega) Q1.out).mono ?_
 rintro e w' ⟨rfl,rfl⟩
 by_cases g1:(af b.frames:Int)<=1048576
 ·rw [fG g1]
  have e1:decide (1048576 - (af b.frames:Int)<0)=false:=by simp;omega
  go_wp2_with fail
  refine (rT s.A2 s.n2 s.c2 _ _ (by omega) (by omega) (by omega)).mono ?_
  rintro e w' ⟨rfl,rfl⟩
  by_cases g2:(s.n2:Int)<=1048576 - (af b.frames:Int)
  ·rw [fG g2]
   have e2:decide (1048576 - (af b.frames:Int) - (s.n2:Int)<0)=false:=by simp;omega
   clear e1
   go_wp2_with fail
   refine (uZ s.A3 s.n3 s.c3 b.saved _ _ (HI.out.saved.below HB.out) (by omega) (by omega) (by omega) Q3.out).mono ?_
   rintro e w' ⟨rfl,rfl⟩
   by_cases g3:(af b.saved:Int)<=1048576 - (af b.frames:Int) - (s.n2:Int)
   ·rw [fG g3]
    have e3:decide (1048576 - (af b.frames:Int) - (s.n2:Int) - (af b.saved:Int)<0)=false:=by simp;omega
    clear e2
    go_wp2_with fail
    go_ret
    exact ⟨_,rfl,.inr ⟨by omega,by omega,by omega⟩,HB.out⟩
   ·rw [eD g3]
    clear e2
    go_wp2_with fail
    go_ret
    exact ⟨_,rfl,.inl (by decide),HB.out⟩
  ·rw [eD g2]
   clear e1
   go_wp2_with fail
   go_ret
   exact ⟨_,rfl,.inl (by decide),HB.out⟩
 ·rw [eD g1]
  go_wp2_with fail
  go_ret
  exact ⟨_,rfl,.inl (by decide),HB.out⟩
structure Ac where
 kind:Int
 A:Int
 B:Int
 C:Int
 reg:Reg
 words:List Int
abbrev dJ (x:Ac) (A:Option Addr) (n c:Nat):Array Value:=#[.int .i64 x.kind,.int .i64 x.A,.int .i64 x.B,.int .i64 x.C,.int .i64 x.reg.X0,.int .i64 x.reg.Y0,.int .i64 x.reg.X1,.int .i64 x.reg.Y1,.slice A n c]
theorem eu {w:World} {g:Nat} {v0 v1 v2 v3 v4 v5 v6 v7 v8:Value} {t:TypeId} (h:w.heap[g]?=some (.cells #[v0,v1,v2,v3,v4,v5,v6,v7,v8] t (0,0))):w.cell? ⟨g,0,none⟩=some v0/\w.cell? ⟨g,1,none⟩=some v1/\w.cell? ⟨g,2,none⟩=some v2/\w.cell? ⟨g,3,none⟩=some v3/\w.cell? ⟨g,4,none⟩=some v4/\w.cell? ⟨g,5,none⟩=some v5/\w.cell? ⟨g,6,none⟩=some v6/\w.cell? ⟨g,7,none⟩=some v7/\w.cell? ⟨g,8,none⟩=some v8 :=
 ⟨aC h rfl,aC h rfl,aC h rfl,aC h rfl,aC h rfl,aC h rfl,aC h rfl,aC h rfl,aC h rfl⟩
theorem IM {w:World} {g:Nat} {v0 v1 v2 v3 v4 v5 v6 v7 v8 u0 u1 u2 u3 u4 u5 u6 u7 u8:Value} {t:TypeId} (h:w.heap[g]?=some (.cells #[v0,v1,v2,v3,v4,v5,v6,v7,v8] t (0,0))):(((((((((w.setCell ⟨g,0,none⟩ u0).setCell ⟨g,1,none⟩ u1).setCell ⟨g,2,none⟩ u2).setCell ⟨g,3,none⟩ u3).setCell ⟨g,4,none⟩ u4).setCell ⟨g,5,none⟩ u5).setCell ⟨g,6,none⟩ u6).setCell ⟨g,7,none⟩ u7).setCell ⟨g,8,none⟩ u8).heap[g]?=some (.cells #[u0,u1,u2,u3,u4,u5,u6,u7,u8] t (0,0)):=by
 have h1:=bD (k:=0) (cs':=#[u0,v1,v2,v3,v4,v5,v6,v7,v8]) h u0 rfl
 have h2:=bD (k:=1) (cs':=#[u0,u1,v2,v3,v4,v5,v6,v7,v8]) h1 u1 rfl
 have h3:=bD (k:=2) (cs':=#[u0,u1,u2,v3,v4,v5,v6,v7,v8]) h2 u2 rfl
 have h4:=bD (k:=3) (cs':=#[u0,u1,u2,u3,v4,v5,v6,v7,v8]) h3 u3 rfl
 have h5:=bD (k:=4) (cs':=#[u0,u1,u2,u3,u4,v5,v6,v7,v8]) h4 u4 rfl
 have h6:=bD (k:=5) (cs':=#[u0,u1,u2,u3,u4,u5,v6,v7,v8]) h5 u5 rfl
 have h7:=bD (k:=6) (cs':=#[u0,u1,u2,u3,u4,u5,u6,v7,v8]) h6 u6 rfl
 have h8:=bD (k:=7) (cs':=#[u0,u1,u2,u3,u4,u5,u6,u7,v8]) h7 u7 rfl
 have h9:=bD (k:=8) (cs':=#[u0,u1,u2,u3,u4,u5,u6,u7,u8]) h8 u8 rfl
 exact h9
section
variable {H:Type} {enc:TypeId × Value→H} {W:World} {b0 base:Nat} {held:Bool}
end
theorem Ci (x:Ac) (A B:Option Addr) (n m c e:Nat) (w:World) (hA:bH w A n x.words) (hB:bH w B m x.words) (hn:n<=1099511627776) :
  Calls Tryz.prog 59 #[.agg (dJ x A n c),.agg (dJ x B m e)] w fun e w'=>e = .returned (.bool true)/\Below w.heap.size w w':=by
 have HA:=Hd hA
 have HB:=Hd hB
 have hb0:Below w.heap.size w ((w.alloc (.cells (dJ x A n c) 74)).alloc (.cells (dJ x B m e) 74)):=aB (aB (Below.refl _ _) _) _
 clear hA hB
 go_enter Tryz.func59,Tryz.ntmps59
 go_wp2_with fail
 refine (qh x.reg _).mono ?_
 rintro e w1 ⟨rfl,b1⟩
 obtain ⟨hcc,hff⟩:=aO b1
 have B1:=Hd (aA hb0 b1)
 clear b1 hb0
 go_wp2_with fail
 refine (ja _ _ _ _ _ _ x.words _ (HA.out.below B1.out) (HB.out.below B1.out) hn).mono ?_
 rintro e w2 ⟨rfl,b2⟩
 have B2:=Hd (aA B1.out b2)
 clear hcc hff b2
 go_wp2_with fail
 go_ret
 exact ⟨rfl,B2.out⟩
def oK (w:World) (g0 g1 g:Nat) (cs cs1 cs':Array Value):Prop:=w.heap[g0]?=some (.cells cs 85 (0,0))/\w.heap[g1]?=some (.cells cs1 74 (0,0))/\w.heap[g]?=some (.cells cs' 74 (0,0))
theorem oK.tr {w w':World} {g0 g1 g:Nat} {cs cs1 cs':Array Value} (h:oK w g0 g1 g cs cs1 cs') (hb:Below w.heap.size w w'):oK w' g0 g1 g cs cs1 cs':=⟨aF hb h.1,aF hb h.2.1,aF hb h.2.2⟩
theorem oK.set {w:World} {g0 g1 g k:Nat} {cs cs1 cs' cs2:Array Value} (h:oK w g0 g1 g cs cs1 cs') (hn:g0≠g) (hn1:g1≠g) (v:Value) (e:cs'.setIfInBounds k v=cs2):oK (w.setCell ⟨g,k,none⟩ v) g0 g1 g cs cs1 cs2:=⟨gp h.1 hn v,gp h.2.1 hn1 v,bD h.2.2 v e⟩
theorem Ej (x:Ac) (A:Option Addr) (n cc:Nat) (w:World) (h:bH w A n x.words) (zs:n<=16777216) :
  Calls Tryz.prog 55 #[.agg (dJ x A n cc)] w fun e w'=>∃B,e = .returned (.agg (dJ x B n n))/\Own w.heap.size w' B n n x.words/\Below w.heap.size w w':=by
 obtain ⟨k,a,b,c,r,ws⟩:=x
 have HI:=Hd h
 clear h
 have hg:w.heap.size≠w.heap.size+1+1:=by omega
 have hg1:w.heap.size+1≠w.heap.size+1+1:=by omega
 go_enter Tryz.func55,Tryz.ntmps55
 go_wp2_with fail
 refine (tQ r _).mono ?_
 rintro e w1 ⟨rfl,b1⟩
 have hs1:=b1.size
 simp only [World.size_alloc] at hs1
 have HB:=Hd (aA (aB (aB (aB (Below.refl w.heap.size w) _) _) _) b1)
 have HT:Hid (oK w1 w.heap.size (w.heap.size+1) (w.heap.size+1+1) (dJ ⟨k,a,b,c,r,ws⟩ A n cc) #[.int .i64 0,.int .i64 0,.int .i64 0,.int .i64 0,.int .i64 0,.int .i64 0,.int .i64 0,.int .i64 0,.slice none 0 0] #[.int .i64 k,.int .i64 a,.int .i64 b,.int .i64 c,.int .i64 0,.int .i64 0,.int .i64 0,.int .i64 0,.slice none 0 0]) :=
  ⟨aF b1 (aR _ (aR _ (aL _ _))),aF b1 (aR _ (ae (by simp))),aF b1 (ae (by simp))⟩
 obtain ⟨x0,x1,x2,x3,x4,x5,x6,x7,x8⟩:=eu HT.out.1
 obtain ⟨z0,z1,z2,z3,z4,z5,z6,z7,z8⟩:=eu HT.out.2.2
 obtain ⟨u0,u1,u2,u3,u4,u5,u6,u7,u8⟩:=eu HT.out.2.1
 have y0:=fun k=>aJ HT.out.1 k
 have y1:=fun k=>aJ HT.out.2.1 k
 have y2:=fun k=>aJ HT.out.2.2 k
 clear b1
 go_wp2_with fail
 refine (rY A n cc ws _ (HI.out.below (by repeat (first|with_reducible exact HB.out|with_reducible refine Below.setCell ?_ (by simp only;omega) _|with_reducible refine aB ?_ _|with_reducible exact Below.refl _ _))) zs).mono ?_
 rintro e w2 ⟨B2,rfl,o2,b2⟩
 have hs2:=b2.size
 simp only [World.size_setCell] at hs2
 replace HB:=Hd (aA (a:=w) (by repeat (first|with_reducible exact HB.out|with_reducible refine Below.setCell ?_ (by simp only;omega) _|with_reducible refine aB ?_ _|with_reducible exact Below.refl _ _)) b2)
 replace HT:Hid (oK w2 w.heap.size (w.heap.size+1) (w.heap.size+1+1) (dJ ⟨k,a,b,c,r,ws⟩ A n cc) #[.int .i64 0,.int .i64 0,.int .i64 0,.int .i64 0,.int .i64 0,.int .i64 0,.int .i64 0,.int .i64 0,.slice none 0 0] #[.int .i64 k,.int .i64 a,.int .i64 b,.int .i64 c,.int .i64 r.X0,.int .i64 r.Y0,.int .i64 r.X1,.int .i64 r.Y1,.slice none 0 0]):=oK.tr ((((HT.out.set hg hg1 (.int .i64 r.X0) rfl).set hg hg1 (.int .i64 r.Y0) rfl).set hg hg1 (.int .i64 r.X1) rfl).set hg hg1 (.int .i64 r.Y1) rfl) b2
 have lO:=o2.lies
 simp only [World.size_setCell] at lO o2
 have O2:=Hd o2
 clear x0 x1 x2 x3 x4 x5 x6 x7 x8 z0 z1 z2 z3 z4 z5 z6 z7 z8 u0 u1 u2 u3 u4 u5 u6 u7 u8 y0 y1 y2
 obtain ⟨x0,x1,x2,x3,x4,x5,x6,x7,x8⟩:=eu HT.out.1
 obtain ⟨z0,z1,z2,z3,z4,z5,z6,z7,z8⟩:=eu HT.out.2.2
 obtain ⟨u0,u1,u2,u3,u4,u5,u6,u7,u8⟩:=eu HT.out.2.1
 have y0:=fun k=>aJ HT.out.1 k
 have y1:=fun k=>aJ HT.out.2.1 k
 have y2:=fun k=>aJ HT.out.2.2 k
 clear b2 o2
 go_wp2_with fail
 generalize hWF:World.setCell _ _ _=WF
 have hb:WF.heap[w.heap.size+1]?=some (.cells (dJ ⟨k,a,b,c,r,ws⟩ B2 n n) 74 (0,0)):=by
  rw [←hWF]
  exact IM (gp HT.out.2.1 hg1 _)
 have hB:Below w.heap.size w WF:=by rw [←hWF];repeat (first|with_reducible exact HB.out|with_reducible refine Below.setCell ?_ (by simp only;omega) _|with_reducible refine aB ?_ _|with_reducible exact Below.refl _ _)
 have hC:Chg (w.heap.size+1) (w.heap.size+3) w2 WF:=by
  rw [←hWF]
  repeat (first|with_reducible exact Chg.refl _ _ _|with_reducible refine Chg.set ?_ (by omega) (by omega) _)
 clear hWF x0 x1 x2 x3 x4 x5 x6 x7 x8 z0 z1 z2 z3 z4 z5 z6 z7 z8 u0 u1 u2 u3 u4 u5 u6 u7 u8 y0 y1 y2
 refine bodyPost_ret (v := .agg (dJ ⟨k,a,b,c,r,ws⟩ B2 n n)) (iJ Tryz.results55 rfl hb Tryz.underlying74 (by kernel_rfl)) rfl ⟨B2,rfl,?_,hB⟩
 exact (O2.out.chg hC lO (.inr (by omega))).more (by omega)
def acF (x:Ac):Prop:=(0<=x.kind/\x.kind<=6)/\x.words.length<=20/\(x.A=0∨x.kind=0∨x.kind=1∨x.kind=4∨x.kind=5)/\(x.kind=1∨(x.B=0/\x.C=0))/\(x.kind=3∨(x.reg.X0=0/\x.reg.Y0=0/\x.reg.X1=0/\x.reg.Y1=0))/\(x.kind=4∨x.words.length=0)
instance (x:Ac):Decidable (acF x):=by unfold acF;exact inferInstance
def jT (b:Bd) (x:Ac):Bool:=bkF b && decide (acF x)
theorem tC {b:Bd} {x:Ac} (h:¬acF x):jT b x=false:=by unfold jT;rw [decide_eq_false h,Bool.and_false]
theorem BH {b:Bd} {x:Ac} (h:bkF b=true):jT b x=decide (acF x):=by unfold jT;rw [h];rfl
theorem Cj (b:Bd) (s:Sl3) (x:Ac) (A:Option Addr) (n c:Nat) (w:World) (hB:bV w b s) (hA:bH w A n x.words) (z1:af b.frames<=1099511627776) (z2:s.n2<=16777216) (z3:af b.saved<=1099511627776) (zn:n<=1099511627776) :
  Calls Tryz.prog 103 #[.agg (aD b s),.agg (dJ x A n c)] w fun e w'=>e = .returned (.bool (jT b x))/\Below w.heap.size w w':=by
 have HB0:=Hd (aB (aB (Below.refl w.heap.size w) (.cells (aD b s) 31)) (.cells (dJ x A n c) 74))
 have HBR:=Hd hB
 have HXL:=Hd hA.1
 have X0:=Hd (ae (w:=w.alloc (.cells (aD b s) 31)) (o := .cells (dJ x A n c) 74) (g:=w.heap.size+1) (by simp))
 clear hB hA
 go_enter Tryz.func103,Tryz.ntmps103
 go_wp2_with fail
 refine (fq b s _ (HBR.out.below HB0.out) z1 z2 z3).mono ?_
 rintro e w1 ⟨rfl,b1⟩
 replace X0:=Hd (aF b1 X0.out)
 have HW:=Hd (aA HB0.out b1)
 obtain ⟨x0,x1,x2,x3,x4,x5,x6,x7,x8⟩:=eu X0.out
 clear b1
 cases hb:bkF b with
 | false =>
  have HF:Hid (jT b x=false):=by show _=_;unfold jT;rw [hb];rfl
  clear hb
  go_wp2_with fail
  go_ret
  exact ⟨aH HF.out.symm,HW.out⟩
 | true =>
  have HBK:=Hd (BH (x:=x) hb)
  clear hb
  by_cases hk:0<=x.kind/\x.kind<=6
  ·have hin:inR x.kind 0 6=true:=ak.2 hk
   obtain ⟨kd,xa,xb,xc,⟨r0,r1,r2,r3⟩,ws⟩:=x
   dsimp only at *
   by_cases h20:n<=20
   ·have d20:decide ((n:Int)>20)=false:=by simp;omega
    have hkd:kd=0∨kd=1∨kd=2∨kd=3∨kd=4∨kd=5∨kd=6:=by omega
    clear hk
    by_cases hxc:xc=0
    ·subst hxc
     by_cases hn:n=0
     ·subst hn
      rcases hkd with rfl|rfl|rfl|rfl|rfl|rfl|rfl
      ·go_wp2_with (go_at_call 116;refine (aN _ _ _ _).mono ?_;rintro e w' ⟨rfl,rfl⟩;rw [hin])
       all_goals
        go_ret
        exact ⟨aH (by
         rw [HBK.out]
         have e:=HXL.out
         first|exact (decide_eq_true (by unfold acF;dsimp only;omega)).symm|exact (decide_eq_false (by unfold acF;dsimp only;omega)).symm),HW.out⟩
      ·go_wp2_with (go_at_call 116;refine (aN _ _ _ _).mono ?_;rintro e w' ⟨rfl,rfl⟩;rw [hin])
       all_goals
        go_ret
        exact ⟨aH (by
         rw [HBK.out]
         have e:=HXL.out
         first|exact (decide_eq_true (by unfold acF;dsimp only;omega)).symm|exact (decide_eq_false (by unfold acF;dsimp only;omega)).symm),HW.out⟩
      ·go_wp2_with (go_at_call 116;refine (aN _ _ _ _).mono ?_;rintro e w' ⟨rfl,rfl⟩;rw [hin])
       all_goals
        go_ret
        exact ⟨aH (by
         rw [HBK.out]
         have e:=HXL.out
         first|exact (decide_eq_true (by unfold acF;dsimp only;omega)).symm|exact (decide_eq_false (by unfold acF;dsimp only;omega)).symm),HW.out⟩
      ·go_wp2_with (go_at_call 116;refine (aN _ _ _ _).mono ?_;rintro e w' ⟨rfl,rfl⟩;rw [hin])
       all_goals
        go_ret
        exact ⟨aH (by
         rw [HBK.out]
         have e:=HXL.out
         first|exact (decide_eq_true (by unfold acF;dsimp only;omega)).symm|exact (decide_eq_false (by unfold acF;dsimp only;omega)).symm),HW.out⟩
      ·go_wp2_with (go_at_call 116;refine (aN _ _ _ _).mono ?_;rintro e w' ⟨rfl,rfl⟩;rw [hin])
       all_goals
        go_ret
        exact ⟨aH (by
         rw [HBK.out]
         have e:=HXL.out
         first|exact (decide_eq_true (by unfold acF;dsimp only;omega)).symm|exact (decide_eq_false (by unfold acF;dsimp only;omega)).symm),HW.out⟩
      ·go_wp2_with (go_at_call 116;refine (aN _ _ _ _).mono ?_;rintro e w' ⟨rfl,rfl⟩;rw [hin])
       all_goals
        go_ret
        exact ⟨aH (by
         rw [HBK.out]
         have e:=HXL.out
         first|exact (decide_eq_true (by unfold acF;dsimp only;omega)).symm|exact (decide_eq_false (by unfold acF;dsimp only;omega)).symm),HW.out⟩
      ·go_wp2_with (go_at_call 116;refine (aN _ _ _ _).mono ?_;rintro e w' ⟨rfl,rfl⟩;rw [hin])
       all_goals
        go_ret
        exact ⟨aH (by
         rw [HBK.out]
         have e:=HXL.out
         first|exact (decide_eq_true (by unfold acF;dsimp only;omega)).symm|exact (decide_eq_false (by unfold acF;dsimp only;omega)).symm),HW.out⟩
     ·have d0:((n:Int)==0)=false:=by simp;omega
      have d1:decide ((n:Int)>0)=true:=by simp;omega
      rcases hkd with rfl|rfl|rfl|rfl|rfl|rfl|rfl
      ·go_wp2_with (go_at_call 116;refine (aN _ _ _ _).mono ?_;rintro e w' ⟨rfl,rfl⟩;rw [hin])
       all_goals
        go_ret
        exact ⟨aH (by
         rw [HBK.out]
         have e:=HXL.out
         first|exact (decide_eq_true (by unfold acF;dsimp only;omega)).symm|exact (decide_eq_false (by unfold acF;dsimp only;omega)).symm),HW.out⟩
      ·go_wp2_with (go_at_call 116;refine (aN _ _ _ _).mono ?_;rintro e w' ⟨rfl,rfl⟩;rw [hin])
       all_goals
        go_ret
        exact ⟨aH (by
         rw [HBK.out]
         have e:=HXL.out
         first|exact (decide_eq_true (by unfold acF;dsimp only;omega)).symm|exact (decide_eq_false (by unfold acF;dsimp only;omega)).symm),HW.out⟩
      ·go_wp2_with (go_at_call 116;refine (aN _ _ _ _).mono ?_;rintro e w' ⟨rfl,rfl⟩;rw [hin])
       all_goals
        go_ret
        exact ⟨aH (by
         rw [HBK.out]
         have e:=HXL.out
         first|exact (decide_eq_true (by unfold acF;dsimp only;omega)).symm|exact (decide_eq_false (by unfold acF;dsimp only;omega)).symm),HW.out⟩
      ·go_wp2_with (go_at_call 116;refine (aN _ _ _ _).mono ?_;rintro e w' ⟨rfl,rfl⟩;rw [hin])
       all_goals
        go_ret
        exact ⟨aH (by
         rw [HBK.out]
         have e:=HXL.out
         first|exact (decide_eq_true (by unfold acF;dsimp only;omega)).symm|exact (decide_eq_false (by unfold acF;dsimp only;omega)).symm),HW.out⟩
      ·go_wp2_with (go_at_call 116;refine (aN _ _ _ _).mono ?_;rintro e w' ⟨rfl,rfl⟩;rw [hin])
       all_goals
        go_ret
        exact ⟨aH (by
         rw [HBK.out]
         have e:=HXL.out
         first|exact (decide_eq_true (by unfold acF;dsimp only;omega)).symm|exact (decide_eq_false (by unfold acF;dsimp only;omega)).symm),HW.out⟩
      ·go_wp2_with (go_at_call 116;refine (aN _ _ _ _).mono ?_;rintro e w' ⟨rfl,rfl⟩;rw [hin])
       all_goals
        go_ret
        exact ⟨aH (by
         rw [HBK.out]
         have e:=HXL.out
         first|exact (decide_eq_true (by unfold acF;dsimp only;omega)).symm|exact (decide_eq_false (by unfold acF;dsimp only;omega)).symm),HW.out⟩
      ·go_wp2_with (go_at_call 116;refine (aN _ _ _ _).mono ?_;rintro e w' ⟨rfl,rfl⟩;rw [hin])
       all_goals
        go_ret
        exact ⟨aH (by
         rw [HBK.out]
         have e:=HXL.out
         first|exact (decide_eq_true (by unfold acF;dsimp only;omega)).symm|exact (decide_eq_false (by unfold acF;dsimp only;omega)).symm),HW.out⟩
    ·have dxc:(xc != 0)=true:=by simpa using hxc
     have dxc2:(xc==0)=false:=by simpa using hxc
     by_cases hn:n=0
     ·subst hn
      rcases hkd with rfl|rfl|rfl|rfl|rfl|rfl|rfl
      ·go_wp2_with (go_at_call 116;refine (aN _ _ _ _).mono ?_;rintro e w' ⟨rfl,rfl⟩;rw [hin])
       all_goals
        go_ret
        exact ⟨aH (by
         rw [HBK.out]
         have e:=HXL.out
         first|exact (decide_eq_true (by unfold acF;dsimp only;omega)).symm|exact (decide_eq_false (by unfold acF;dsimp only;omega)).symm),HW.out⟩
      ·go_wp2_with (go_at_call 116;refine (aN _ _ _ _).mono ?_;rintro e w' ⟨rfl,rfl⟩;rw [hin])
       all_goals
        go_ret
        exact ⟨aH (by
         rw [HBK.out]
         have e:=HXL.out
         first|exact (decide_eq_true (by unfold acF;dsimp only;omega)).symm|exact (decide_eq_false (by unfold acF;dsimp only;omega)).symm),HW.out⟩
      ·go_wp2_with (go_at_call 116;refine (aN _ _ _ _).mono ?_;rintro e w' ⟨rfl,rfl⟩;rw [hin])
       all_goals
        go_ret
        exact ⟨aH (by
         rw [HBK.out]
         have e:=HXL.out
         first|exact (decide_eq_true (by unfold acF;dsimp only;omega)).symm|exact (decide_eq_false (by unfold acF;dsimp only;omega)).symm),HW.out⟩
      ·go_wp2_with (go_at_call 116;refine (aN _ _ _ _).mono ?_;rintro e w' ⟨rfl,rfl⟩;rw [hin])
       all_goals
        go_ret
        exact ⟨aH (by
         rw [HBK.out]
         have e:=HXL.out
         first|exact (decide_eq_true (by unfold acF;dsimp only;omega)).symm|exact (decide_eq_false (by unfold acF;dsimp only;omega)).symm),HW.out⟩
      ·go_wp2_with (go_at_call 116;refine (aN _ _ _ _).mono ?_;rintro e w' ⟨rfl,rfl⟩;rw [hin])
       all_goals
        go_ret
        exact ⟨aH (by
         rw [HBK.out]
         have e:=HXL.out
         first|exact (decide_eq_true (by unfold acF;dsimp only;omega)).symm|exact (decide_eq_false (by unfold acF;dsimp only;omega)).symm),HW.out⟩
      ·go_wp2_with (go_at_call 116;refine (aN _ _ _ _).mono ?_;rintro e w' ⟨rfl,rfl⟩;rw [hin])
       all_goals
        go_ret
        exact ⟨aH (by
         rw [HBK.out]
         have e:=HXL.out
         first|exact (decide_eq_true (by unfold acF;dsimp only;omega)).symm|exact (decide_eq_false (by unfold acF;dsimp only;omega)).symm),HW.out⟩
      ·go_wp2_with (go_at_call 116;refine (aN _ _ _ _).mono ?_;rintro e w' ⟨rfl,rfl⟩;rw [hin])
       all_goals
        go_ret
        exact ⟨aH (by
         rw [HBK.out]
         have e:=HXL.out
         first|exact (decide_eq_true (by unfold acF;dsimp only;omega)).symm|exact (decide_eq_false (by unfold acF;dsimp only;omega)).symm),HW.out⟩
     ·have d0:((n:Int)==0)=false:=by simp;omega
      have d1:decide ((n:Int)>0)=true:=by simp;omega
      rcases hkd with rfl|rfl|rfl|rfl|rfl|rfl|rfl
      ·go_wp2_with (go_at_call 116;refine (aN _ _ _ _).mono ?_;rintro e w' ⟨rfl,rfl⟩;rw [hin])
       all_goals
        go_ret
        exact ⟨aH (by
         rw [HBK.out]
         have e:=HXL.out
         first|exact (decide_eq_true (by unfold acF;dsimp only;omega)).symm|exact (decide_eq_false (by unfold acF;dsimp only;omega)).symm),HW.out⟩
      ·go_wp2_with (go_at_call 116;refine (aN _ _ _ _).mono ?_;rintro e w' ⟨rfl,rfl⟩;rw [hin])
       all_goals
        go_ret
        exact ⟨aH (by
         rw [HBK.out]
         have e:=HXL.out
         first|exact (decide_eq_true (by unfold acF;dsimp only;omega)).symm|exact (decide_eq_false (by unfold acF;dsimp only;omega)).symm),HW.out⟩
      ·go_wp2_with (go_at_call 116;refine (aN _ _ _ _).mono ?_;rintro e w' ⟨rfl,rfl⟩;rw [hin])
       all_goals
        go_ret
        exact ⟨aH (by
         rw [HBK.out]
         have e:=HXL.out
         first|exact (decide_eq_true (by unfold acF;dsimp only;omega)).symm|exact (decide_eq_false (by unfold acF;dsimp only;omega)).symm),HW.out⟩
      ·go_wp2_with (go_at_call 116;refine (aN _ _ _ _).mono ?_;rintro e w' ⟨rfl,rfl⟩;rw [hin])
       all_goals
        go_ret
        exact ⟨aH (by
         rw [HBK.out]
         have e:=HXL.out
         first|exact (decide_eq_true (by unfold acF;dsimp only;omega)).symm|exact (decide_eq_false (by unfold acF;dsimp only;omega)).symm),HW.out⟩
      ·go_wp2_with (go_at_call 116;refine (aN _ _ _ _).mono ?_;rintro e w' ⟨rfl,rfl⟩;rw [hin])
       all_goals
        go_ret
        exact ⟨aH (by
         rw [HBK.out]
         have e:=HXL.out
         first|exact (decide_eq_true (by unfold acF;dsimp only;omega)).symm|exact (decide_eq_false (by unfold acF;dsimp only;omega)).symm),HW.out⟩
      ·go_wp2_with (go_at_call 116;refine (aN _ _ _ _).mono ?_;rintro e w' ⟨rfl,rfl⟩;rw [hin])
       all_goals
        go_ret
        exact ⟨aH (by
         rw [HBK.out]
         have e:=HXL.out
         first|exact (decide_eq_true (by unfold acF;dsimp only;omega)).symm|exact (decide_eq_false (by unfold acF;dsimp only;omega)).symm),HW.out⟩
      ·go_wp2_with (go_at_call 116;refine (aN _ _ _ _).mono ?_;rintro e w' ⟨rfl,rfl⟩;rw [hin])
       all_goals
        go_ret
        exact ⟨aH (by
         rw [HBK.out]
         have e:=HXL.out
         first|exact (decide_eq_true (by unfold acF;dsimp only;omega)).symm|exact (decide_eq_false (by unfold acF;dsimp only;omega)).symm),HW.out⟩
   ·have d20:decide ((n:Int)>20)=true:=by simp;omega
    have HF:Hid (jT b ⟨kd,xa,xb,xc,⟨r0,r1,r2,r3⟩,ws⟩=false):=tC (fun h=>by have e:=HXL.out;have:=h.2.1;dsimp only at *;omega)
    clear hk
    go_wp2_with (go_at_call 116;refine (aN _ _ _ _).mono ?_;rintro e w' ⟨rfl,rfl⟩;rw [hin])
    all_goals
     go_ret
     exact ⟨aH HF.out.symm,HW.out⟩
  ·have hin:inR x.kind 0 6=false:=by cases h:inR x.kind 0 6 with|false=>rfl|true=>exact absurd (ak.1 h) hk
   have HF:Hid (jT b x=false):=tC (fun h=>hk h.1)
   go_wp2_with (go_at_call 116;refine (aN _ _ _ _).mono ?_;rintro e w' ⟨rfl,rfl⟩;rw [hin])
   go_ret
   exact ⟨aH HF.out.symm,HW.out⟩
theorem Cm (b:Bd) (s:Sl3) (x:Ac) (A:Option Addr) (n c:Nat) (w:World) (hB:bV w b s) (hA:bH w A n x.words) (z1:af b.frames<=1099511627776) (z2:s.n2<=16777216) (z3:af b.saved<=1099511627776) (zn:n<=1099511627776) :
  Calls Tryz.prog 123 #[.agg (aD b s),.agg (dJ x A n c)] w fun e w'=>e = .returned (.bool (jT b x))/\Below w.heap.size w w':=by
 have HB0:=Hd (aB (aB (Below.refl w.heap.size w) (.cells (aD b s) 31)) (.cells (dJ x A n c) 74))
 have HBR:=Hd hB
 have HXL:=Hd hA.1
 have X0:=Hd (ae (w:=w.alloc (.cells (aD b s) 31)) (o := .cells (dJ x A n c) 74) (g:=w.heap.size+1) (by simp))
 clear hB hA
 go_enter Tryz.func123,Tryz.ntmps123
 go_wp2_with fail
 refine (ek b s _ (HBR.out.below HB0.out) z1 z2 z3).mono ?_
 rintro e w1 ⟨rfl,b1⟩
 replace X0:=Hd (aF b1 X0.out)
 have HW:=Hd (aA HB0.out b1)
 obtain ⟨x0,x1,x2,x3,x4,x5,x6,x7,x8⟩:=eu X0.out
 clear b1
 cases hb:bkF b with
 | false =>
  have HF:Hid (jT b x=false):=by show _=_;unfold jT;rw [hb];rfl
  clear hb
  go_wp2_with fail
  go_ret
  exact ⟨aH HF.out.symm,HW.out⟩
 | true =>
  have HBK:=Hd (BH (x:=x) hb)
  clear hb
  by_cases hk:0<=x.kind/\x.kind<=6
  ·have hin:inR x.kind 0 6=true:=ak.2 hk
   obtain ⟨kd,xa,xb,xc,⟨r0,r1,r2,r3⟩,ws⟩:=x
   dsimp only at *
   by_cases h20:n<=20
   ·have d20:decide ((n:Int)>20)=false:=by simp;omega
    have hkd:kd=0∨kd=1∨kd=2∨kd=3∨kd=4∨kd=5∨kd=6:=by omega
    clear hk
    by_cases hxc:xc=0
    ·subst hxc
     by_cases hn:n=0
     ·subst hn
      rcases hkd with rfl|rfl|rfl|rfl|rfl|rfl|rfl
      ·go_wp2_with (go_at_call 175;refine (aW _ _ _ _).mono ?_;rintro e w' ⟨rfl,rfl⟩;rw [hin])
       all_goals
        go_ret
        exact ⟨aH (by
         rw [HBK.out]
         have e:=HXL.out
         first|exact (decide_eq_true (by unfold acF;dsimp only;omega)).symm|exact (decide_eq_false (by unfold acF;dsimp only;omega)).symm|(rw [Bool.eq_iff_iff,beq_iff_eq,decide_eq_true_eq];unfold acF;dsimp only;constructor <;> intro _ <;> omega)),HW.out⟩
      ·go_wp2_with (go_at_call 175;refine (aW _ _ _ _).mono ?_;rintro e w' ⟨rfl,rfl⟩;rw [hin])
       all_goals
        go_ret
        exact ⟨aH (by
         rw [HBK.out]
         have e:=HXL.out
         first|exact (decide_eq_true (by unfold acF;dsimp only;omega)).symm|exact (decide_eq_false (by unfold acF;dsimp only;omega)).symm|(rw [Bool.eq_iff_iff,beq_iff_eq,decide_eq_true_eq];unfold acF;dsimp only;constructor <;> intro _ <;> omega)),HW.out⟩
      ·go_wp2_with (go_at_call 175;refine (aW _ _ _ _).mono ?_;rintro e w' ⟨rfl,rfl⟩;rw [hin])
       all_goals
        go_ret
        exact ⟨aH (by
         rw [HBK.out]
         have e:=HXL.out
         first|exact (decide_eq_true (by unfold acF;dsimp only;omega)).symm|exact (decide_eq_false (by unfold acF;dsimp only;omega)).symm|(rw [Bool.eq_iff_iff,beq_iff_eq,decide_eq_true_eq];unfold acF;dsimp only;constructor <;> intro _ <;> omega)),HW.out⟩
      ·go_wp2_with (go_at_call 175;refine (aW _ _ _ _).mono ?_;rintro e w' ⟨rfl,rfl⟩;rw [hin])
       all_goals
        go_ret
        exact ⟨aH (by
         rw [HBK.out]
         have e:=HXL.out
         first|exact (decide_eq_true (by unfold acF;dsimp only;omega)).symm|exact (decide_eq_false (by unfold acF;dsimp only;omega)).symm|(rw [Bool.eq_iff_iff,beq_iff_eq,decide_eq_true_eq];unfold acF;dsimp only;constructor <;> intro _ <;> omega)),HW.out⟩
      ·go_wp2_with (go_at_call 175;refine (aW _ _ _ _).mono ?_;rintro e w' ⟨rfl,rfl⟩;rw [hin])
       all_goals
        go_ret
        exact ⟨aH (by
         rw [HBK.out]
         have e:=HXL.out
         first|exact (decide_eq_true (by unfold acF;dsimp only;omega)).symm|exact (decide_eq_false (by unfold acF;dsimp only;omega)).symm|(rw [Bool.eq_iff_iff,beq_iff_eq,decide_eq_true_eq];unfold acF;dsimp only;constructor <;> intro _ <;> omega)),HW.out⟩
      ·go_wp2_with (go_at_call 175;refine (aW _ _ _ _).mono ?_;rintro e w' ⟨rfl,rfl⟩;rw [hin])
       all_goals
        go_ret
        exact ⟨aH (by
         rw [HBK.out]
         have e:=HXL.out
         first|exact (decide_eq_true (by unfold acF;dsimp only;omega)).symm|exact (decide_eq_false (by unfold acF;dsimp only;omega)).symm|(rw [Bool.eq_iff_iff,beq_iff_eq,decide_eq_true_eq];unfold acF;dsimp only;constructor <;> intro _ <;> omega)),HW.out⟩
      ·go_wp2_with (go_at_call 175;refine (aW _ _ _ _).mono ?_;rintro e w' ⟨rfl,rfl⟩;rw [hin])
       all_goals
        go_ret
        exact ⟨aH (by
         rw [HBK.out]
         have e:=HXL.out
         first|exact (decide_eq_true (by unfold acF;dsimp only;omega)).symm|exact (decide_eq_false (by unfold acF;dsimp only;omega)).symm|(rw [Bool.eq_iff_iff,beq_iff_eq,decide_eq_true_eq];unfold acF;dsimp only;constructor <;> intro _ <;> omega)),HW.out⟩
     ·have d0:((n:Int)==0)=false:=by simp;omega
      have d1:decide ((n:Int)>0)=true:=by simp;omega
      rcases hkd with rfl|rfl|rfl|rfl|rfl|rfl|rfl
      ·go_wp2_with (go_at_call 175;refine (aW _ _ _ _).mono ?_;rintro e w' ⟨rfl,rfl⟩;rw [hin])
       all_goals
        go_ret
        exact ⟨aH (by
         rw [HBK.out]
         have e:=HXL.out
         first|exact (decide_eq_true (by unfold acF;dsimp only;omega)).symm|exact (decide_eq_false (by unfold acF;dsimp only;omega)).symm|(rw [Bool.eq_iff_iff,beq_iff_eq,decide_eq_true_eq];unfold acF;dsimp only;constructor <;> intro _ <;> omega)),HW.out⟩
      ·go_wp2_with (go_at_call 175;refine (aW _ _ _ _).mono ?_;rintro e w' ⟨rfl,rfl⟩;rw [hin])
       all_goals
        go_ret
        exact ⟨aH (by
         rw [HBK.out]
         have e:=HXL.out
         first|exact (decide_eq_true (by unfold acF;dsimp only;omega)).symm|exact (decide_eq_false (by unfold acF;dsimp only;omega)).symm|(rw [Bool.eq_iff_iff,beq_iff_eq,decide_eq_true_eq];unfold acF;dsimp only;constructor <;> intro _ <;> omega)),HW.out⟩
      ·go_wp2_with (go_at_call 175;refine (aW _ _ _ _).mono ?_;rintro e w' ⟨rfl,rfl⟩;rw [hin])
       all_goals
        go_ret
        exact ⟨aH (by
         rw [HBK.out]
         have e:=HXL.out
         first|exact (decide_eq_true (by unfold acF;dsimp only;omega)).symm|exact (decide_eq_false (by unfold acF;dsimp only;omega)).symm|(rw [Bool.eq_iff_iff,beq_iff_eq,decide_eq_true_eq];unfold acF;dsimp only;constructor <;> intro _ <;> omega)),HW.out⟩
      ·go_wp2_with (go_at_call 175;refine (aW _ _ _ _).mono ?_;rintro e w' ⟨rfl,rfl⟩;rw [hin])
       all_goals
        go_ret
        exact ⟨aH (by
         rw [HBK.out]
         have e:=HXL.out
         first|exact (decide_eq_true (by unfold acF;dsimp only;omega)).symm|exact (decide_eq_false (by unfold acF;dsimp only;omega)).symm|(rw [Bool.eq_iff_iff,beq_iff_eq,decide_eq_true_eq];unfold acF;dsimp only;constructor <;> intro _ <;> omega)),HW.out⟩
      ·go_wp2_with (go_at_call 175;refine (aW _ _ _ _).mono ?_;rintro e w' ⟨rfl,rfl⟩;rw [hin])
       all_goals
        go_ret
        exact ⟨aH (by
         rw [HBK.out]
         have e:=HXL.out
         first|exact (decide_eq_true (by unfold acF;dsimp only;omega)).symm|exact (decide_eq_false (by unfold acF;dsimp only;omega)).symm|(rw [Bool.eq_iff_iff,beq_iff_eq,decide_eq_true_eq];unfold acF;dsimp only;constructor <;> intro _ <;> omega)),HW.out⟩
      ·go_wp2_with (go_at_call 175;refine (aW _ _ _ _).mono ?_;rintro e w' ⟨rfl,rfl⟩;rw [hin])
       all_goals
        go_ret
        exact ⟨aH (by
         rw [HBK.out]
         have e:=HXL.out
         first|exact (decide_eq_true (by unfold acF;dsimp only;omega)).symm|exact (decide_eq_false (by unfold acF;dsimp only;omega)).symm|(rw [Bool.eq_iff_iff,beq_iff_eq,decide_eq_true_eq];unfold acF;dsimp only;constructor <;> intro _ <;> omega)),HW.out⟩
      ·go_wp2_with (go_at_call 175;refine (aW _ _ _ _).mono ?_;rintro e w' ⟨rfl,rfl⟩;rw [hin])
       all_goals
        go_ret
        exact ⟨aH (by
         rw [HBK.out]
         have e:=HXL.out
         first|exact (decide_eq_true (by unfold acF;dsimp only;omega)).symm|exact (decide_eq_false (by unfold acF;dsimp only;omega)).symm|(rw [Bool.eq_iff_iff,beq_iff_eq,decide_eq_true_eq];unfold acF;dsimp only;constructor <;> intro _ <;> omega)),HW.out⟩
    ·have dxc:(xc != 0)=true:=by simpa using hxc
     have dxc2:(xc==0)=false:=by simpa using hxc
     by_cases hn:n=0
     ·subst hn
      rcases hkd with rfl|rfl|rfl|rfl|rfl|rfl|rfl
      ·go_wp2_with (go_at_call 175;refine (aW _ _ _ _).mono ?_;rintro e w' ⟨rfl,rfl⟩;rw [hin])
       all_goals
        go_ret
        exact ⟨aH (by
         rw [HBK.out]
         have e:=HXL.out
         first|exact (decide_eq_true (by unfold acF;dsimp only;omega)).symm|exact (decide_eq_false (by unfold acF;dsimp only;omega)).symm|(rw [Bool.eq_iff_iff,beq_iff_eq,decide_eq_true_eq];unfold acF;dsimp only;constructor <;> intro _ <;> omega)),HW.out⟩
      ·go_wp2_with (go_at_call 175;refine (aW _ _ _ _).mono ?_;rintro e w' ⟨rfl,rfl⟩;rw [hin])
       all_goals
        go_ret
        exact ⟨aH (by
         rw [HBK.out]
         have e:=HXL.out
         first|exact (decide_eq_true (by unfold acF;dsimp only;omega)).symm|exact (decide_eq_false (by unfold acF;dsimp only;omega)).symm|(rw [Bool.eq_iff_iff,beq_iff_eq,decide_eq_true_eq];unfold acF;dsimp only;constructor <;> intro _ <;> omega)),HW.out⟩
      ·go_wp2_with (go_at_call 175;refine (aW _ _ _ _).mono ?_;rintro e w' ⟨rfl,rfl⟩;rw [hin])
       all_goals
        go_ret
        exact ⟨aH (by
         rw [HBK.out]
         have e:=HXL.out
         first|exact (decide_eq_true (by unfold acF;dsimp only;omega)).symm|exact (decide_eq_false (by unfold acF;dsimp only;omega)).symm|(rw [Bool.eq_iff_iff,beq_iff_eq,decide_eq_true_eq];unfold acF;dsimp only;constructor <;> intro _ <;> omega)),HW.out⟩
      ·go_wp2_with (go_at_call 175;refine (aW _ _ _ _).mono ?_;rintro e w' ⟨rfl,rfl⟩;rw [hin])
       all_goals
        go_ret
        exact ⟨aH (by
         rw [HBK.out]
         have e:=HXL.out
         first|exact (decide_eq_true (by unfold acF;dsimp only;omega)).symm|exact (decide_eq_false (by unfold acF;dsimp only;omega)).symm|(rw [Bool.eq_iff_iff,beq_iff_eq,decide_eq_true_eq];unfold acF;dsimp only;constructor <;> intro _ <;> omega)),HW.out⟩
      ·go_wp2_with (go_at_call 175;refine (aW _ _ _ _).mono ?_;rintro e w' ⟨rfl,rfl⟩;rw [hin])
       all_goals
        go_ret
        exact ⟨aH (by
         rw [HBK.out]
         have e:=HXL.out
         first|exact (decide_eq_true (by unfold acF;dsimp only;omega)).symm|exact (decide_eq_false (by unfold acF;dsimp only;omega)).symm|(rw [Bool.eq_iff_iff,beq_iff_eq,decide_eq_true_eq];unfold acF;dsimp only;constructor <;> intro _ <;> omega)),HW.out⟩
      ·go_wp2_with (go_at_call 175;refine (aW _ _ _ _).mono ?_;rintro e w' ⟨rfl,rfl⟩;rw [hin])
       all_goals
        go_ret
        exact ⟨aH (by
         rw [HBK.out]
         have e:=HXL.out
         first|exact (decide_eq_true (by unfold acF;dsimp only;omega)).symm|exact (decide_eq_false (by unfold acF;dsimp only;omega)).symm|(rw [Bool.eq_iff_iff,beq_iff_eq,decide_eq_true_eq];unfold acF;dsimp only;constructor <;> intro _ <;> omega)),HW.out⟩
      ·go_wp2_with (go_at_call 175;refine (aW _ _ _ _).mono ?_;rintro e w' ⟨rfl,rfl⟩;rw [hin])
       all_goals
        go_ret
        exact ⟨aH (by
         rw [HBK.out]
         have e:=HXL.out
         first|exact (decide_eq_true (by unfold acF;dsimp only;omega)).symm|exact (decide_eq_false (by unfold acF;dsimp only;omega)).symm|(rw [Bool.eq_iff_iff,beq_iff_eq,decide_eq_true_eq];unfold acF;dsimp only;constructor <;> intro _ <;> omega)),HW.out⟩
     ·have d0:((n:Int)==0)=false:=by simp;omega
      have d1:decide ((n:Int)>0)=true:=by simp;omega
      rcases hkd with rfl|rfl|rfl|rfl|rfl|rfl|rfl
      ·go_wp2_with (go_at_call 175;refine (aW _ _ _ _).mono ?_;rintro e w' ⟨rfl,rfl⟩;rw [hin])
       all_goals
        go_ret
        exact ⟨aH (by
         rw [HBK.out]
         have e:=HXL.out
         first|exact (decide_eq_true (by unfold acF;dsimp only;omega)).symm|exact (decide_eq_false (by unfold acF;dsimp only;omega)).symm|(rw [Bool.eq_iff_iff,beq_iff_eq,decide_eq_true_eq];unfold acF;dsimp only;constructor <;> intro _ <;> omega)),HW.out⟩
      ·go_wp2_with (go_at_call 175;refine (aW _ _ _ _).mono ?_;rintro e w' ⟨rfl,rfl⟩;rw [hin])
       all_goals
        go_ret
        exact ⟨aH (by
         rw [HBK.out]
         have e:=HXL.out
         first|exact (decide_eq_true (by unfold acF;dsimp only;omega)).symm|exact (decide_eq_false (by unfold acF;dsimp only;omega)).symm|(rw [Bool.eq_iff_iff,beq_iff_eq,decide_eq_true_eq];unfold acF;dsimp only;constructor <;> intro _ <;> omega)),HW.out⟩
      ·go_wp2_with (go_at_call 175;refine (aW _ _ _ _).mono ?_;rintro e w' ⟨rfl,rfl⟩;rw [hin])
       all_goals
        go_ret
        exact ⟨aH (by
         rw [HBK.out]
         have e:=HXL.out
         first|exact (decide_eq_true (by unfold acF;dsimp only;omega)).symm|exact (decide_eq_false (by unfold acF;dsimp only;omega)).symm|(rw [Bool.eq_iff_iff,beq_iff_eq,decide_eq_true_eq];unfold acF;dsimp only;constructor <;> intro _ <;> omega)),HW.out⟩
      ·go_wp2_with (go_at_call 175;refine (aW _ _ _ _).mono ?_;rintro e w' ⟨rfl,rfl⟩;rw [hin])
       all_goals
        go_ret
        exact ⟨aH (by
         rw [HBK.out]
         have e:=HXL.out
         first|exact (decide_eq_true (by unfold acF;dsimp only;omega)).symm|exact (decide_eq_false (by unfold acF;dsimp only;omega)).symm|(rw [Bool.eq_iff_iff,beq_iff_eq,decide_eq_true_eq];unfold acF;dsimp only;constructor <;> intro _ <;> omega)),HW.out⟩
      ·go_wp2_with (go_at_call 175;refine (aW _ _ _ _).mono ?_;rintro e w' ⟨rfl,rfl⟩;rw [hin])
       all_goals
        go_ret
        exact ⟨aH (by
         rw [HBK.out]
         have e:=HXL.out
         first|exact (decide_eq_true (by unfold acF;dsimp only;omega)).symm|exact (decide_eq_false (by unfold acF;dsimp only;omega)).symm|(rw [Bool.eq_iff_iff,beq_iff_eq,decide_eq_true_eq];unfold acF;dsimp only;constructor <;> intro _ <;> omega)),HW.out⟩
      ·go_wp2_with (go_at_call 175;refine (aW _ _ _ _).mono ?_;rintro e w' ⟨rfl,rfl⟩;rw [hin])
       all_goals
        go_ret
        exact ⟨aH (by
         rw [HBK.out]
         have e:=HXL.out
         first|exact (decide_eq_true (by unfold acF;dsimp only;omega)).symm|exact (decide_eq_false (by unfold acF;dsimp only;omega)).symm|(rw [Bool.eq_iff_iff,beq_iff_eq,decide_eq_true_eq];unfold acF;dsimp only;constructor <;> intro _ <;> omega)),HW.out⟩
      ·go_wp2_with (go_at_call 175;refine (aW _ _ _ _).mono ?_;rintro e w' ⟨rfl,rfl⟩;rw [hin])
       all_goals
        go_ret
        exact ⟨aH (by
         rw [HBK.out]
         have e:=HXL.out
         first|exact (decide_eq_true (by unfold acF;dsimp only;omega)).symm|exact (decide_eq_false (by unfold acF;dsimp only;omega)).symm|(rw [Bool.eq_iff_iff,beq_iff_eq,decide_eq_true_eq];unfold acF;dsimp only;constructor <;> intro _ <;> omega)),HW.out⟩
   ·have d20:decide ((n:Int)>20)=true:=by simp;omega
    have HF:Hid (jT b ⟨kd,xa,xb,xc,⟨r0,r1,r2,r3⟩,ws⟩=false):=tC (fun h=>by have e:=HXL.out;have:=h.2.1;dsimp only at *;omega)
    clear hk
    go_wp2_with (go_at_call 175;refine (aW _ _ _ _).mono ?_;rintro e w' ⟨rfl,rfl⟩;rw [hin])
    all_goals
     go_ret
     exact ⟨aH HF.out.symm,HW.out⟩
  ·have hin:inR x.kind 0 6=false:=by cases h:inR x.kind 0 6 with|false=>rfl|true=>exact absurd (ak.1 h) hk
   have HF:Hid (jT b x=false):=tC (fun h=>hk h.1)
   go_wp2_with (go_at_call 175;refine (aW _ _ _ _).mono ?_;rintro e w' ⟨rfl,rfl⟩;rw [hin])
   go_ret
   exact ⟨aH HF.out.symm,HW.out⟩
end Go.Proofs.YtignkfhdkcgkgaaGreat
