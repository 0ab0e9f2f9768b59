/- The blocks of a tile that is being decoded: what they hold and how they change. -/
import Derived.Laws.Rows
import Derived.Lib.SmallJoins
import Derived.Test.YtignkfhdkcgkgaaGreatBrd
import Derived.Test.YtignkfhdkcgkgaaGreatEmpty
namespace Go.Proofs.YtignkfhdkcgkgaaGreat
set_option maxHeartbeats 4000000
set_option maxRecDepth 100000
open Go.RowKit
def di (ws:List Int) (p b N k:Nat):List Int:=((List.range k).map fun i=>bC ws (p+b * i) b)++List.replicate (N - k) 0
theorem xu (ws:List Int) (p b N:Nat):di ws p b N 0=List.replicate N 0:=by simp [di]
theorem gW {ws:List Int} {p b N k:Nat} (h:k<=N):(di ws p b N k).length=N:=by simp [di];omega
theorem rT {ws:List Int} {p b N k:Nat} (h:k<N):(di ws p b N k).set k (bC ws (p+b * k) b)=di ws p b N (k+1):=by
 have e:N - k=(N - (k+1))+1:=by omega
 have hl:((List.range k).map fun i=>bC ws (p+b * i) b).length=k:=by simp
 rw [di,List.set_append,if_neg (by omega),hl,Nat.sub_self,e,List.replicate_succ,List.set_cons_zero,di,List.range_succ,List.map_append,List.append_assoc]
 rfl
theorem tK (ws:List Int) (p b N:Nat):di ws p b N N=(List.range N).map fun i=>bC ws (p+b * i) b:=by simp [di]
abbrev jX (gm gl M:Nat) (pad ram:Int):Array Value:=#[.slice (some ⟨gm,0,none⟩) M M,.slice (some ⟨gl,0,none⟩) 2 2,.int .i64 pad,.int .i64 ram]
abbrev Em (g0 g1:Nat) (a0 b0 c0 a1 b1 c1:Int):Array Value:=#[.slice (some ⟨g0,0,none⟩) 4 4,.int .i64 a0,.int .i64 b0,.int .i64 c0,.slice (some ⟨g1,0,none⟩) 4 4,.int .i64 a1,.int .i64 b1,.int .i64 c1]
structure Bk where
 g:Nat
 gr:Nat
 gc:Nat
 gm:Nat
 gl:Nat
 g0:Nat
 g1:Nat
structure Tl where
 mux:List Int
 s0:List Int
 s1:List Int
 a0:Int
 b0:Int
 c0:Int
 a1:Int
 b1:Int
 c1:Int
 pad:Int
 ram:Int
structure Sep (k:Bk) (lo:Nat):Prop where
 le:lo<=k.g/\lo<=k.gr/\lo<=k.gc/\lo<=k.gm/\lo<=k.gl/\lo<=k.g0/\lo<=k.g1
 n1:k.g≠k.gr/\k.g≠k.gc/\k.g≠k.gm/\k.g≠k.gl/\k.g≠k.g0/\k.g≠k.g1
 n2:k.gr≠k.gc/\k.gr≠k.gm/\k.gr≠k.gl/\k.gr≠k.g0/\k.gr≠k.g1
 n3:k.gc≠k.gm/\k.gc≠k.gl/\k.gc≠k.g0/\k.gc≠k.g1
 n4:k.gm≠k.gl/\k.gm≠k.g0/\k.gm≠k.g1
 n5:k.gl≠k.g0/\k.gl≠k.g1/\k.g0≠k.g1
structure DW (w:World) (k:Bk) (A:Option Addr) (n c p M:Nat) (t:Tl):Prop where
 r:Rdr w k.g A n c p
 res:w.heap[k.gr]?=some (.cells #[.slice none 0 0,.slice none 0 0,.int .i64 0,.int .i64 0] 103 (0,0))
 tile:w.heap[k.gc]?=some (.cells (jX k.gm k.gl M t.pad t.ram) 103 (0,0))
 mux:w.heap[k.gm]?=some (.cells (arr t.mux) 3 (0,0))
 les:w.heap[k.gl]?=some (.cells (Em k.g0 k.g1 t.a0 t.b0 t.c0 t.a1 t.b1 t.c1) 107 (0,0))
 s0:w.heap[k.g0]?=some (.cells (arr t.s0) 3 (0,0))
 s1:w.heap[k.g1]?=some (.cells (arr t.s1) 3 (0,0))
theorem lS {w w':World} {g k:Nat} {o:Obj} (hg:w.grownBy w' (some g)) (h:w.heap[k]?=some o) (hne:g≠k):w'.heap[k]?=some o :=
 (hg.block k (aG h) (by simpa using fun e=>hne e.symm)).trans h
theorem DW.got {w w':World} {k:Bk} {lo:Nat} {A:Option Addr} {n c p q M:Nat} {t:Tl} (h:DW w k A n c p M t) (hs:Sep k lo) (hr:Rdr w' k.g A n c q) (hg:w.grownBy w' (some k.g)):DW w' k A n c q M t:=by
 obtain ⟨h1,h2,h3,h4,h5,h6⟩:=hs.n1
 exact ⟨hr,lS hg h.res h1,lS hg h.tile h2,lS hg h.mux h3,lS hg h.les h4,lS hg h.s0 h5,lS hg h.s1 h6⟩
theorem DW.drew {w:World} {k:Bk} {A:Option Addr} {n c p M:Nat} {t:Tl} (h:DW w k A n c p M t):DW w.drew k A n c p M t:=⟨h.r,h.res,h.tile,h.mux,h.les,h.s0,h.s1⟩
theorem DW.setMux {w:World} {k:Bk} {lo:Nat} {A:Option Addr} {n c p M:Nat} {t:Tl} (h:DW w k A n c p M t) (hs:Sep k lo) (j:Nat) (x:Int):DW (w.setCell ⟨k.gm,j,none⟩ (.int .i64 x)) k A n c p M { t with mux:=t.mux.set j x }:=by
 obtain ⟨a1,a2,a3,a4,a5,a6⟩:=hs.n1
 obtain ⟨b1,b2,b3,b4,b5⟩:=hs.n2
 obtain ⟨c1,c2,c3,c4⟩:=hs.n3
 obtain ⟨d1,d2,d3⟩:=hs.n4
 exact ⟨aR _ h.r a3,aR _ h.res b2,aR _ h.tile c1,by rw [bI h.mux j,iJ],aR _ h.les d1.symm,aR _ h.s0 d2.symm,aR _ h.s1 d3.symm⟩
theorem DW.setS0 {w:World} {k:Bk} {lo:Nat} {A:Option Addr} {n c p M:Nat} {t:Tl} (h:DW w k A n c p M t) (hs:Sep k lo) (j:Nat) (x:Int):DW (w.setCell ⟨k.g0,j,none⟩ (.int .i64 x)) k A n c p M { t with s0:=t.s0.set j x }:=by
 obtain ⟨a1,a2,a3,a4,a5,a6⟩:=hs.n1
 obtain ⟨b1,b2,b3,b4,b5⟩:=hs.n2
 obtain ⟨c1,c2,c3,c4⟩:=hs.n3
 obtain ⟨d1,d2,d3⟩:=hs.n4
 obtain ⟨e1,e2,e3⟩:=hs.n5
 exact ⟨aR _ h.r a5,aR _ h.res b4,aR _ h.tile c3,aR _ h.mux d2,aR _ h.les e1,by rw [bI h.s0 j,iJ],aR _ h.s1 e3.symm⟩
theorem DW.setS1 {w:World} {k:Bk} {lo:Nat} {A:Option Addr} {n c p M:Nat} {t:Tl} (h:DW w k A n c p M t) (hs:Sep k lo) (j:Nat) (x:Int):DW (w.setCell ⟨k.g1,j,none⟩ (.int .i64 x)) k A n c p M { t with s1:=t.s1.set j x }:=by
 obtain ⟨a1,a2,a3,a4,a5,a6⟩:=hs.n1
 obtain ⟨b1,b2,b3,b4,b5⟩:=hs.n2
 obtain ⟨c1,c2,c3,c4⟩:=hs.n3
 obtain ⟨d1,d2,d3⟩:=hs.n4
 obtain ⟨e1,e2,e3⟩:=hs.n5
 exact ⟨aR _ h.r a6,aR _ h.res b5,aR _ h.tile c4,aR _ h.mux d3,aR _ h.les e2,aR _ h.s0 e3,by rw [bI h.s1 j,iJ]⟩
theorem DW.setA0 {w:World} {k:Bk} {lo:Nat} {A:Option Addr} {n c p M:Nat} {t:Tl} (h:DW w k A n c p M t) (hs:Sep k lo) (x:Int):DW (w.setCell ⟨k.gl,1,none⟩ (.int .i64 x)) k A n c p M { t with a0:=x }:=by
 obtain ⟨a1,a2,a3,a4,a5,a6⟩:=hs.n1
 obtain ⟨b1,b2,b3,b4,b5⟩:=hs.n2
 obtain ⟨c1,c2,c3,c4⟩:=hs.n3
 obtain ⟨d1,d2,d3⟩:=hs.n4
 obtain ⟨e1,e2,e3⟩:=hs.n5
 exact ⟨aR _ h.r a4,aR _ h.res b3,aR _ h.tile c2,aR _ h.mux d1,(bI h.les 1 _).trans rfl,aR _ h.s0 e1.symm,aR _ h.s1 e2.symm⟩
theorem DW.setB0 {w:World} {k:Bk} {lo:Nat} {A:Option Addr} {n c p M:Nat} {t:Tl} (h:DW w k A n c p M t) (hs:Sep k lo) (x:Int):DW (w.setCell ⟨k.gl,2,none⟩ (.int .i64 x)) k A n c p M { t with b0:=x }:=by
 obtain ⟨a1,a2,a3,a4,a5,a6⟩:=hs.n1
 obtain ⟨b1,b2,b3,b4,b5⟩:=hs.n2
 obtain ⟨c1,c2,c3,c4⟩:=hs.n3
 obtain ⟨d1,d2,d3⟩:=hs.n4
 obtain ⟨e1,e2,e3⟩:=hs.n5
 exact ⟨aR _ h.r a4,aR _ h.res b3,aR _ h.tile c2,aR _ h.mux d1,(bI h.les 2 _).trans rfl,aR _ h.s0 e1.symm,aR _ h.s1 e2.symm⟩
theorem DW.setC0 {w:World} {k:Bk} {lo:Nat} {A:Option Addr} {n c p M:Nat} {t:Tl} (h:DW w k A n c p M t) (hs:Sep k lo) (x:Int):DW (w.setCell ⟨k.gl,3,none⟩ (.int .i64 x)) k A n c p M { t with c0:=x }:=by
 obtain ⟨a1,a2,a3,a4,a5,a6⟩:=hs.n1
 obtain ⟨b1,b2,b3,b4,b5⟩:=hs.n2
 obtain ⟨c1,c2,c3,c4⟩:=hs.n3
 obtain ⟨d1,d2,d3⟩:=hs.n4
 obtain ⟨e1,e2,e3⟩:=hs.n5
 exact ⟨aR _ h.r a4,aR _ h.res b3,aR _ h.tile c2,aR _ h.mux d1,(bI h.les 3 _).trans rfl,aR _ h.s0 e1.symm,aR _ h.s1 e2.symm⟩
theorem DW.setA1 {w:World} {k:Bk} {lo:Nat} {A:Option Addr} {n c p M:Nat} {t:Tl} (h:DW w k A n c p M t) (hs:Sep k lo) (x:Int):DW (w.setCell ⟨k.gl,5,none⟩ (.int .i64 x)) k A n c p M { t with a1:=x }:=by
 obtain ⟨a1,a2,a3,a4,a5,a6⟩:=hs.n1
 obtain ⟨b1,b2,b3,b4,b5⟩:=hs.n2
 obtain ⟨c1,c2,c3,c4⟩:=hs.n3
 obtain ⟨d1,d2,d3⟩:=hs.n4
 obtain ⟨e1,e2,e3⟩:=hs.n5
 exact ⟨aR _ h.r a4,aR _ h.res b3,aR _ h.tile c2,aR _ h.mux d1,(bI h.les 5 _).trans rfl,aR _ h.s0 e1.symm,aR _ h.s1 e2.symm⟩
theorem DW.setB1 {w:World} {k:Bk} {lo:Nat} {A:Option Addr} {n c p M:Nat} {t:Tl} (h:DW w k A n c p M t) (hs:Sep k lo) (x:Int):DW (w.setCell ⟨k.gl,6,none⟩ (.int .i64 x)) k A n c p M { t with b1:=x }:=by
 obtain ⟨a1,a2,a3,a4,a5,a6⟩:=hs.n1
 obtain ⟨b1,b2,b3,b4,b5⟩:=hs.n2
 obtain ⟨c1,c2,c3,c4⟩:=hs.n3
 obtain ⟨d1,d2,d3⟩:=hs.n4
 obtain ⟨e1,e2,e3⟩:=hs.n5
 exact ⟨aR _ h.r a4,aR _ h.res b3,aR _ h.tile c2,aR _ h.mux d1,(bI h.les 6 _).trans rfl,aR _ h.s0 e1.symm,aR _ h.s1 e2.symm⟩
theorem DW.setC1 {w:World} {k:Bk} {lo:Nat} {A:Option Addr} {n c p M:Nat} {t:Tl} (h:DW w k A n c p M t) (hs:Sep k lo) (x:Int):DW (w.setCell ⟨k.gl,7,none⟩ (.int .i64 x)) k A n c p M { t with c1:=x }:=by
 obtain ⟨a1,a2,a3,a4,a5,a6⟩:=hs.n1
 obtain ⟨b1,b2,b3,b4,b5⟩:=hs.n2
 obtain ⟨c1,c2,c3,c4⟩:=hs.n3
 obtain ⟨d1,d2,d3⟩:=hs.n4
 obtain ⟨e1,e2,e3⟩:=hs.n5
 exact ⟨aR _ h.r a4,aR _ h.res b3,aR _ h.tile c2,aR _ h.mux d1,(bI h.les 7 _).trans rfl,aR _ h.s0 e1.symm,aR _ h.s1 e2.symm⟩
theorem DW.setPad {w:World} {k:Bk} {lo:Nat} {A:Option Addr} {n c p M:Nat} {t:Tl} (h:DW w k A n c p M t) (hs:Sep k lo) (x:Int):DW (w.setCell ⟨k.gc,2,none⟩ (.int .i64 x)) k A n c p M { t with pad:=x }:=by
 obtain ⟨a1,a2,a3,a4,a5,a6⟩:=hs.n1
 obtain ⟨b1,b2,b3,b4,b5⟩:=hs.n2
 obtain ⟨c1,c2,c3,c4⟩:=hs.n3
 exact ⟨aR _ h.r a2,aR _ h.res b1,(bI h.tile 2 _).trans rfl,aR _ h.mux c1.symm,aR _ h.les c2.symm,aR _ h.s0 c3.symm,aR _ h.s1 c4.symm⟩
theorem DW.setRam {w:World} {k:Bk} {lo:Nat} {A:Option Addr} {n c p M:Nat} {t:Tl} (h:DW w k A n c p M t) (hs:Sep k lo) (x:Int):DW (w.setCell ⟨k.gc,3,none⟩ (.int .i64 x)) k A n c p M { t with ram:=x }:=by
 obtain ⟨a1,a2,a3,a4,a5,a6⟩:=hs.n1
 obtain ⟨b1,b2,b3,b4,b5⟩:=hs.n2
 obtain ⟨c1,c2,c3,c4⟩:=hs.n3
 exact ⟨aR _ h.r a2,aR _ h.res b1,(bI h.tile 3 _).trans rfl,aR _ h.mux c1.symm,aR _ h.les c2.symm,aR _ h.s0 c3.symm,aR _ h.s1 c4.symm⟩
theorem aF {w:World} {g:Nat} {cs:Array Value} {t:TypeId} (h:w.heap[g]?=some (.cells cs t (0,0))) (k:Nat):w.frozen? ⟨g,k,none⟩=false:=by unfold World.frozen?;rw [h];simp
theorem kW {w:World} {g:Nat} {A:Option Addr} {n c p:Nat} (h:Rdr w g A n c p):Rdr w.drew g A n c p:=h
structure DT (w:World) (k:Bk) (t:Tl):Prop where
 mux:w.heap[k.gm]?=some (.cells (arr t.mux) 3 (0,0))
 les:w.heap[k.gl]?=some (.cells (Em k.g0 k.g1 t.a0 t.b0 t.c0 t.a1 t.b1 t.c1) 107 (0,0))
 s0:w.heap[k.g0]?=some (.cells (arr t.s0) 3 (0,0))
 s1:w.heap[k.g1]?=some (.cells (arr t.s1) 3 (0,0))
theorem DW.dt {w:World} {k:Bk} {A:Option Addr} {n c p M:Nat} {t:Tl} (h:DW w k A n c p M t):DT w k t:=⟨h.mux,h.les,h.s0,h.s1⟩
theorem DT.setR {w:World} {k:Bk} {lo:Nat} {t:Tl} (h:DT w k t) (hs:Sep k lo) (j:Nat) (v:Value):DT (w.setCell ⟨k.gr,j,none⟩ v) k t:=by
 obtain ⟨b1,b2,b3,b4,b5⟩:=hs.n2
 exact ⟨aR _ h.mux b2.symm,aR _ h.les b3.symm,aR _ h.s0 b4.symm,aR _ h.s1 b5.symm⟩
theorem DT.done {w:World} {k:Bk} {lo M:Nat} {t:Tl} (h:DT w k t) (hs:Sep k lo) (hm:t.mux.length=M) (hM:M<=maxLen) (h0:t.s0.length=4) (h1:t.s1.length=4) :
  eX lo w.heap.size w (aZ.cells ⟨t.mux,[⟨t.s0,t.a0,t.b0,t.c0⟩,⟨t.s1,t.a1,t.b1,t.c1⟩],t.pad,t.ram⟩) (jX k.gm k.gl M t.pad t.ram).toList:=by
 obtain ⟨l1,l2,l3,l4,l5,l6,l7⟩:=hs.le
 obtain ⟨d1,d2,d3⟩:=hs.n4
 obtain ⟨e1,e2,e3⟩:=hs.n5
 have om:dh w (jI t.mux) (.slice (some ⟨k.gm,0,none⟩) M M) [k.gm]:=fU.2 ⟨Own.arr h.mux (Nat.zero_le _) hM hm,rfl⟩
 have o0:dh w (jI t.s0) (.slice (some ⟨k.g0,0,none⟩) 4 4) [k.g0]:=fU.2 ⟨Own.arr h.s0 (Nat.zero_le _) (by unfold maxLen;omega) h0,rfl⟩
 have o1:dh w (jI t.s1) (.slice (some ⟨k.g1,0,none⟩) 4 4) [k.g1]:=fU.2 ⟨Own.arr h.s1 (Nat.zero_le _) (by unfold maxLen;omega) h1,rfl⟩
 have ci:∀x:Int,dh w (.int x) (.int .i64 x) []:=fun x=>fo.2 ⟨rfl,rfl⟩
 have ol:dh w (nR [⟨t.s0,t.a0,t.b0,t.c0⟩,⟨t.s1,t.a1,t.b1,t.c1⟩]) (.slice (some ⟨k.gl,0,none⟩) 2 2) [k.gl,k.g0,k.g1]:=by
  unfold nR
  rw [dY]
  refine ⟨_,2,2,(Em k.g0 k.g1 t.a0 t.b0 t.c0 t.a1 t.b1 t.c1).toList,[k.g0,k.g1],rfl,⟨rfl,.inr ⟨k.gl,2,_,rfl,Nat.zero_le _,h.les,Nat.le_refl _,by unfold maxLen;omega,rfl,rfl⟩⟩,rfl,?_⟩
  show fT w [jI t.s0,.int t.a0,.int t.b0,.int t.c0,jI t.s1,.int t.a1,.int t.b1,.int t.c1] _ _
  simp only [cz,eP]
  exact ⟨_,_,[k.g0],[k.g1],rfl,rfl,o0,_,_,[],[k.g1],rfl,rfl,ci _,_,_,[],[k.g1],rfl,rfl,ci _,_,_,[],[k.g1],rfl,rfl,ci _,_,_,[k.g1],[],rfl,rfl,o1,_,_,[],[],rfl,rfl,ci _,_,_,[],[],rfl,rfl,ci _,_,_,[],[],rfl,rfl,ci _,rfl,rfl⟩
 refine ⟨[k.gm,k.gl,k.g0,k.g1],?_,by simp [d1,d2,d3,e1,e2,e3],fun x hx=>?_⟩
 ·show fT w [jI t.mux,nR _,.int t.pad,.int t.ram] _ _
  simp only [cz,eP]
  exact ⟨_,_,[k.gm],[k.gl,k.g0,k.g1],rfl,rfl,om,_,_,[k.gl,k.g0,k.g1],[],rfl,rfl,ol,_,_,[],[],rfl,rfl,ci _,_,_,[],[],rfl,rfl,ci _,rfl,rfl⟩
 ·have q1:=aG h.mux
  have q2:=aG h.les
  have q3:=aG h.s0
  have q4:=aG h.s1
  simp only [List.mem_cons,List.not_mem_nil,or_false] at hx
  omega
theorem Chg.set {lo hi g k:Nat} {w w':World} (h:Chg lo hi w w') (h1:lo<=g) (h2:g<hi) (v:Value):Chg lo hi w (w'.setCell ⟨g,k,none⟩ v):=by
 have b:=(Below.refl g w').setCell (p:=⟨g,k,none⟩) (Nat.le_refl g) v
 exact ⟨b.os.trans h.os,b.tape.trans h.tape,b.output.trans h.output,Nat.le_trans h.size b.size,fun i hi' hn=>(Below.heap_setCell w' ⟨g,k,none⟩ v i (by show i≠g;omega)).trans (h.block i hi' hn)⟩
theorem fC {w:World} {g:Nat} {o:Obj} (h:w.heap[g]?=some o) {p:Addr} (hp:g≠p.block) (v:Value):(w.setCell p v).heap[g]?=some o:=(Below.heap_setCell w p v g hp).trans h
theorem bH {w:World} {g k:Nat} {cs cs':Array Value} {t:TypeId} (h:w.heap[g]?=some (.cells cs t (0,0))) (v:Value) (e:cs.setIfInBounds k v=cs'):(w.setCell ⟨g,k,none⟩ v).heap[g]?=some (.cells cs' t (0,0)):=by
 rw [←e];exact Go.Joins.block_setCell h v
theorem bZ {fn:Func} {p:Tmp} {ty t:TypeId} {tmps cs:Array Value} {P:Program} {w:World} {g:Nat} {fs:Array Field} (h:fn.results=#[.cell p ty]) (ht:tmps.getD p undef = .pointer (some ⟨g,0,none⟩)) (hg:w.heap[g]?=some (.cells cs t (0,0)))
  (hu:P.underlying ty=some (.struct fs)) (hi:(P.info? ty).map (·.size)=some cs.size):(results fn tmps).run P w = .ok (.agg cs) w:=by
 have hl:(loadVar ty ⟨g,0,none⟩).run P w = .ok (.agg cs) w:=run_loadVar_row w g t ty cs (0,0) (.struct fs) hg hu rfl hi
 simp only [results,h]
 simp only [Array.getD_eq_getD_getElem?] at ht
 simp [ht,asAddr,hl]
theorem aL {fn:Func} {p u:Tmp} {ty t:TypeId} {tmps cs:Array Value} {P:Program} {w:World} {g:Nat} {fs:Array Field} (h:fn.results=#[.cell p ty,.tmp u]) (ht:tmps.getD p undef = .pointer (some ⟨g,0,none⟩)) (hg:w.heap[g]?=some (.cells cs t (0,0)))
  (hu:P.underlying ty=some (.struct fs)) (hi:(P.info? ty).map (·.size)=some cs.size):(results fn tmps).run P w = .ok (.tuple #[.agg cs,tmps.getD u undef]) w:=by
 have hl:(loadVar ty ⟨g,0,none⟩).run P w = .ok (.agg cs) w:=run_loadVar_row w g t ty cs (0,0) (.struct fs) hg hu rfl hi
 simp only [results,h]
 simp only [Array.getD_eq_getD_getElem?] at ht
 simp [ht,asAddr,hl]
theorem jH {w:World} {g:Nat} {v0 v1 v2 v3 v4 v5 v6 v7 v8 v9 v10 v11:Value} {t:TypeId} (h:w.heap[g]?=some (.cells #[v0,v1,v2,v3,v4,v5,v6,v7,v8,v9,v10,v11] t (0,0))):w.cell? ⟨g,0,none⟩=some v0/\w.cell? ⟨g,1,none⟩=some v1/\w.cell? ⟨g,2,none⟩=some v2/\w.cell? ⟨g,3,none⟩=some v3/\w.cell? ⟨g,4,none⟩=some v4/\w.cell? ⟨g,5,none⟩=some v5/\w.cell? ⟨g,6,none⟩=some v6/\w.cell? ⟨g,7,none⟩=some v7/\w.cell? ⟨g,8,none⟩=some v8/\w.cell? ⟨g,9,none⟩=some v9/\w.cell? ⟨g,10,none⟩=some v10/\w.cell? ⟨g,11,none⟩=some v11 :=
 ⟨aC h rfl,aC h rfl,aC h rfl,aC h rfl,aC h rfl,aC h rfl,aC h rfl,aC h rfl,aC h rfl,aC h rfl,aC h rfl,aC h rfl⟩
def zR (w:World) (g0 g1 g:Nat) (cs cs1 cs':Array Value):Prop:=w.heap[g0]?=some (.cells cs 44 (0,0))/\w.heap[g1]?=some (.cells cs1 31 (0,0))/\w.heap[g]?=some (.cells cs' 31 (0,0))
theorem zR.tr {w w':World} {g0 g1 g:Nat} {cs cs1 cs':Array Value} (h:zR w g0 g1 g cs cs1 cs') (hb:Below w.heap.size w w'):zR w' g0 g1 g cs cs1 cs':=⟨aJ hb h.1,aJ hb h.2.1,aJ hb h.2.2⟩
theorem zR.set {w:World} {g0 g1 g k:Nat} {cs cs1 cs' cs2:Array Value} (h:zR w g0 g1 g cs cs1 cs') (hn:g0≠g) (hn1:g1≠g) (v:Value) (e:cs'.setIfInBounds k v=cs2):zR (w.setCell ⟨g,k,none⟩ v) g0 g1 g cs cs1 cs2:=⟨fC h.1 hn v,fC h.2.1 hn1 v,bH h.2.2 v e⟩
theorem En {lo hi l1 h1 l2 h2 l3 h3:Nat} {w:World} {b:Bd} {s:Sl3} (k1:dA l1 h1 w s.A1 s.n1 s.c1 b.frames) (k2:Own l2 w s.A2 s.n2 s.c2 b.state) (l:ig s.A2 l2 h2) (k3:dA l3 h3 w s.A3 s.n3 s.c3 b.saved)
  (e0:lo<=l1/\l1<=h1/\h1<=l2/\l2<=h2/\h2<=l3/\l3<=h3/\h3<=hi):eY lo hi w b s :=
 ⟨l1,h1,l2,h2,l3,h3,k1,k2,l,k3,.inl e0.2.2.1,.inl (by omega),.inl e0.2.2.2.2.1,⟨e0.1,by omega⟩,⟨by omega,by omega⟩,⟨by omega,by omega⟩⟩
theorem Dk {w:World} {g:Nat} {v0 v1 v2 v3 v4 v5 v6 v7 v8 v9 v10 v11 u0 u1 u2 u3 u4 u5 u6 u7 u8 u9 u10 u11:Value} {t:TypeId} (h:w.heap[g]?=some (.cells #[v0,v1,v2,v3,v4,v5,v6,v7,v8,v9,v10,v11] t (0,0))):((((((((((((w.setCell ⟨g,0,none⟩ u0).setCell ⟨g,1,none⟩ u1).setCell ⟨g,2,none⟩ u2).setCell ⟨g,3,none⟩ u3).setCell ⟨g,4,none⟩ u4).setCell ⟨g,5,none⟩ u5).setCell ⟨g,6,none⟩ u6).setCell ⟨g,7,none⟩ u7).setCell ⟨g,8,none⟩ u8).setCell ⟨g,9,none⟩ u9).setCell ⟨g,10,none⟩ u10).setCell ⟨g,11,none⟩ u11).heap[g]?=some (.cells #[u0,u1,u2,u3,u4,u5,u6,u7,u8,u9,u10,u11] t (0,0)):=by
 have h1:=bH (k:=0) (cs':=#[u0,v1,v2,v3,v4,v5,v6,v7,v8,v9,v10,v11]) h u0 rfl
 have h2:=bH (k:=1) (cs':=#[u0,u1,v2,v3,v4,v5,v6,v7,v8,v9,v10,v11]) h1 u1 rfl
 have h3:=bH (k:=2) (cs':=#[u0,u1,u2,v3,v4,v5,v6,v7,v8,v9,v10,v11]) h2 u2 rfl
 have h4:=bH (k:=3) (cs':=#[u0,u1,u2,u3,v4,v5,v6,v7,v8,v9,v10,v11]) h3 u3 rfl
 have h5:=bH (k:=4) (cs':=#[u0,u1,u2,u3,u4,v5,v6,v7,v8,v9,v10,v11]) h4 u4 rfl
 have h6:=bH (k:=5) (cs':=#[u0,u1,u2,u3,u4,u5,v6,v7,v8,v9,v10,v11]) h5 u5 rfl
 have h7:=bH (k:=6) (cs':=#[u0,u1,u2,u3,u4,u5,u6,v7,v8,v9,v10,v11]) h6 u6 rfl
 have h8:=bH (k:=7) (cs':=#[u0,u1,u2,u3,u4,u5,u6,u7,v8,v9,v10,v11]) h7 u7 rfl
 have h9:=bH (k:=8) (cs':=#[u0,u1,u2,u3,u4,u5,u6,u7,u8,v9,v10,v11]) h8 u8 rfl
 have h10:=bH (k:=9) (cs':=#[u0,u1,u2,u3,u4,u5,u6,u7,u8,u9,v10,v11]) h9 u9 rfl
 have h11:=bH (k:=10) (cs':=#[u0,u1,u2,u3,u4,u5,u6,u7,u8,u9,u10,v11]) h10 u10 rfl
 have h12:=bH (k:=11) (cs':=#[u0,u1,u2,u3,u4,u5,u6,u7,u8,u9,u10,u11]) h11 u11 rfl
 exact h12
def tL (lo hi:Nat) (w:World) (t:aZ) (v:Value):Prop:=∃v0 v1:Value,v = .agg #[v0,v1,.int .i64 t.pad,.int .i64 t.ram]/\eX lo hi w t.cells [v0,v1,.int .i64 t.pad,.int .i64 t.ram]
def Dl (w:World) (t:aZ) (e:Ending) (w':World):Prop:=∃v,e = .returned v/\tL w.heap.size w'.heap.size w' t v/\Below w.heap.size w w'
def Z4:List Int:=List.replicate 4 0
def tl2 (ws:List Int) (M:Nat):Nat→Tl
 | 0=>⟨di ws 0 5 M M,Z4,Z4,0,0,0,0,0,0,0,0⟩
 | 1=>⟨di ws 0 5 M M,di ws (5 * M) 3 4 4,Z4,bC ws (5 * M+12) 16,bC ws (5 * M+28) 1,bC ws (5 * M+29) 1,0,0,0,0,0⟩
 | _=>⟨di ws 0 5 M M,di ws (5 * M) 3 4 4,di ws (5 * M+30) 3 4 4,bC ws (5 * M+12) 16,bC ws (5 * M+28) 1,bC ws (5 * M+29) 1,bC ws (5 * M+42) 16,bC ws (5 * M+58) 1,bC ws (5 * M+59) 1,0,0⟩
theorem fD {W w w':World} {B g:Nat} (h:Below B W w) (hg:w.grownBy w' (some g)) (hB:B<=w.heap.size) (hl:B<=g):Below B W w':=h.grown hg hB (by rintro k ⟨⟩;exact hl)
theorem Eo (ws:List Int) (p:Nat):di ws p 3 4 4=[bC ws p 3,bC ws (p+3) 3,bC ws (p+6) 3,bC ws (p+9) 3]:=by rw [tK];rfl
theorem Gq (ws:List Int) (M:Nat):di ws 0 5 M M=qG ws M:=by rw [tK];simp [qG]
theorem FZ {T:aZ} {ws:List Int} {M:Nat} (h:T=⟨qG ws M,[sM ws (5 * M),sM ws (5 * M+30)],bC ws (5 * M+60) 2,bC ws (5 * M+62) 5⟩) :
  T=⟨(tl2 ws M 2).mux,[⟨(tl2 ws M 2).s0,(tl2 ws M 2).a0,(tl2 ws M 2).b0,(tl2 ws M 2).c0⟩,⟨(tl2 ws M 2).s1,(tl2 ws M 2).a1,(tl2 ws M 2).b1,(tl2 ws M 2).c1⟩],bC ws (5 * M+60) 2,bC ws (5 * M+62) 5⟩:=by
 rw [h]
 simp only [tl2,Gq,Eo]
 rfl
theorem kX (g:Nat) (A:Option Addr) (n c:Nat) (ws:List Int) (p b:Nat) (bi:Int) (w:World) (hbi:bi=(b:Int)) (h:Rdr w g A n c p) (hA:bN w A n ws) (hne:∀a,A=some a→a.block≠g) (hin:Ee ws) (hp:p+b<=16 * n) (hb:b<=16) (hn:n<=1000) :
  Calls Tryz.prog 225 #[.pointer (some ⟨g,0,none⟩),.int .i64 bi] w fun e w'=>e = .returned (.int .i64 (bC ws p b))/\Rdr w' g A n c (p+b)/\w.grownBy w' (some g):=by
 rw [hbi]
 exact JJ g A n c ws p b w h hA hne hin hp hb hn
theorem dN {w:World} {p q:Addr} {u v:Value} (h:w.cell? p=some u) (hne:q.block≠p.block):(w.setCell q v).cell? p=some u:=(World.cell?_of_block (Below.heap_setCell w q v p.block hne.symm)).trans h
theorem xw (d:Dev) (A:Option Addr) (n c:Nat) (ws:List Int) (w:World) (hd:bL d=true) (hA:bN w A n ws) (hn:(n:Int)=fwI d) (hin:Ee ws) :
  Calls Tryz.prog 192 #[.agg #[.int .i64 d.W,.int .i64 d.H,.int .i64 d.T,.int .i64 d.R],.slice A n c] w (Dl w (qH d ws)):=by
 obtain ⟨hm,hm1,hm2,hm3,hm4,hm5⟩:=gY hd
 have hn1:n<=11:=by omega
 have hn2:5 * fK d+67<=16 * n:=by omega
 have HD:=Hd hd
 have HI:=Hd hA
 have HIN:=Hd hin
 have HDT:Hid (qH d ws=⟨qG ws (fK d),[sM ws (5 * fK d),sM ws (5 * fK d+30)],bC ws (5 * fK d+60) 2,bC ws (5 * fK d+62) 5⟩):=rfl
 have HP:Hid (∀(t:aZ) (v:Value) (w':World),qH d ws=t→tL w.heap.size w'.heap.size w' t v→Below w.heap.size w w'→Dl w (qH d ws) (.returned v) w'):=fun t v w' e h hb=>by rw [e];exact ⟨v,rfl,h,hb⟩
 have hAb:=fun a (h:A=some a)=>(show a.block<w.heap.size by
  rcases Nat.eq_zero_or_pos n with h0|h0
  ·omega
  ·obtain ⟨b,o,e,hb,_⟩:=hA.2 h0
   rw [h] at e
   injection e with e
   subst e
   exact hb)
 have HAB:=Hd hAb
 clear hd hA hn hin hm hm3 hm4 hm5 hAb
 generalize qH d ws=T at *
 generalize hM:fK d=M at *
 have HM:=Hd hM
 clear hM
 go_enter Tryz.func192,Tryz.ntmps192
 go_wp2_with fail
 refine (yV d _ HD.out).mono ?_
 rintro e w1 ⟨v,rfl,he,b1⟩
 rw [HM.out] at he
 obtain ⟨gm,gl,g0,g1,rfl,l1,l2,l3,l4,n1,n2,n3,n4,n5,n6,k1,k2,k3,k4⟩:=he
 have hs1:=b1.size
 simp only [World.size_alloc] at hs1 l1 l2 l3 l4
 have hr:=aJ b1 (g:=w.heap.size+1+1) (o := .cells #[.slice A n c,.int .i64 0] 215) (ax (by simp only [World.size_alloc]))
 have hres:=aJ b1 (g:=w.heap.size+1) (o := .cells #[.slice none 0 0,.slice none 0 0,.int .i64 0,.int .i64 0] 103) (aW _ (ax (by simp only [World.size_alloc])))
 have HE:=Hd (aA (aB (aB (aB (Below.refl w.heap.size w) _) _) _) b1)
 go_wp2_with fail
 have HS:Sep ⟨w.heap.size+1+1,w.heap.size+1,w1.heap.size,gm,gl,g0,g1⟩ w.heap.size:=by
  have q1:=aG k1
  have q2:=aG k2
  have q3:=aG k3
  have q4:=aG k4
  constructor <;> simp only <;> omega
 have hDW:DW (w1.alloc (.cells #[.slice (some ⟨gm,0,none⟩) M M,.slice (some ⟨gl,0,none⟩) 2 2,.int .i64 0,.int .i64 0] 103)) ⟨w.heap.size+1+1,w.heap.size+1,w1.heap.size,gm,gl,g0,g1⟩ A n c 0 M ⟨di ws 0 5 M 0,Z4,Z4,0,0,0,0,0,0,0,0⟩ :=
  ⟨aW _ hr,aW _ hres,aK _ _,by rw [xu];exact aW _ k1,aW _ k2,aW _ k3,aW _ k4⟩
 have hB0:=aB HE.out (.cells #[.slice (some ⟨gm,0,none⟩) M M,.slice (some ⟨gl,0,none⟩) 2 2,.int .i64 0,.int .i64 0] 103)
 have HDW:=Hd hDW
 have HB0:=Hd hB0
 have hgc:w.heap.size+1+1+1<=w1.heap.size:=hs1
 clear b1 k1 k2 k3 k4 hr hres hDW hB0 HE hs1 n1 n2 n3 n4 n5 n6
 generalize hgr:w.heap.size+1=gr at *
 generalize hgg:gr+1=g at *
 generalize hgcc:w1.heap.size=gc at *
 have HSEP:=Hd HS
 have HNE:Hid (∀a,A=some a→a.block≠g):=fun a ha=>by have:=HAB.out a ha;omega
 have HGR:=Hd hgr
 have HGG:=Hd hgg
 clear hgr hgg hgcc HS
 have hlo:w.heap.size<=g:=by have:=HGR.out;have:=HGG.out;omega
 have hlor:w.heap.size<=gr:=by have:=HGR.out;omega
 have hlog:w.heap.size<=gc:=by have:=HGR.out;have:=HGG.out;omega
 have hlol:w.heap.size<=gl:=by have:=HGR.out;have:=HGG.out;omega
 have hlo0:w.heap.size<=g0:=by have:=HGR.out;have:=HGG.out;omega
 have hlo1:w.heap.size<=g1:=by have:=HGR.out;have:=HGG.out;omega
 have hlom:w.heap.size<=gm:=by have:=HGR.out;have:=HGG.out;omega
 go_loopw [18] (fun i wr=>∃j:Nat,j<=M/\i = .int .i64 j/\DW wr ⟨g,gr,gc,gm,gl,g0,g1⟩ A n c (5 * j) M ⟨di ws 0 5 M j,Z4,Z4,0,0,0,0,0,0,0,0⟩/\Below w.heap.size w wr) (fun i _=>M - (intOf i).toNat)
 case atStart=>exact ⟨0,Nat.zero_le _,rfl,HDW.out,HB0.out⟩
 case round =>
  obtain ⟨j,hj,rfl,hdw,hbe⟩:=hrel
  have HW:=Hd hdw
  have HB:=Hd hbe
  clear hdw hbe
  by_cases hlt:j<M
  ·have hc0:wr.cell? ⟨gc,0,none⟩=some (.slice (some ⟨gm,0,none⟩) M M):=aC HW.out.tile rfl
   have hnl:=gW (ws:=ws) (p:=0) (b:=5) (N:=M) (k:=j) (by omega)
   have hcm:wr.cell? ⟨gm,j,none⟩=some (.int .i64 ((di ws 0 5 M j)[j]?.getD 0)):=aC HW.out.mux (dz (by rw [hnl];exact hlt))
   have HNL:=Hd hnl
   have i0:(0:Int)<=(j:Int):=by omega
   have i1:(j:Int)<(M:Int):=by omega
   clear hnl hcm
   go_wp2_with fail
   go_region_held3 (fun w'=>w'.cell? ⟨gc,0,none⟩=some (.slice (some ⟨gm,0,none⟩) M M))
    (first|exact hc0|exact hc2|exact dN hc2 (by simp only;exact HSEP.out.n3.1.symm))
    (first
     | (go_at_call 225;(with_reducible refine (kX g A n c ws (5 * j) 5 5 _ rfl (kW HW.out.r) (HI.out.below HB.out).drewd HNE.out HIN.out (by omega) (by omega) (by omega)).mono ?_);rintro e w2 ⟨rfl,hr2,hg2⟩;have W2:=Hd (HW.out.drew.got HSEP.out hr2 hg2);have B2:=Hd (fD HB.out.drew hg2 HB.out.size hlo);clear hr2 hg2;have hc2:=aC (k:=0) W2.out.tile rfl;have hcm2:=aC (k:=j) W2.out.mux (dz (by rw [HNL.out];exact hlt));have hfm2:=aF W2.out.mux j))
   go_wp2_with fail
   go_roundw
   case rel =>
    have hset:=W2.out.setMux HSEP.out j (bC ws (5 * j) 5)
    have e:=rT (ws:=ws) (p:=0) (b:=5) hlt
    rw [Nat.zero_add] at e
    refine ⟨j+1,by omega,by go_num,?_,?_⟩
    ·simp only [e] at hset
     exact hset
    ·exact B2.out.setCell (p:=⟨gm,j,none⟩) hlom _
   case measure=>simp [intOf];omega
  ·have hjm:M=j:=by omega
   subst hjm
   have hc1:wr.cell? ⟨gc,1,none⟩=some (.slice (some ⟨gl,0,none⟩) 2 2):=aC HW.out.tile rfl
   go_wp2_with fail
   clear hc1
   go_loopw [31] (fun i wr=>∃e:Nat,e<=2/\i = .int .i64 e/\DW wr ⟨g,gr,gc,gm,gl,g0,g1⟩ A n c (5 * M+30 * e) M (tl2 ws M e)/\Below w.heap.size w wr) (fun i _=>2 - (intOf i).toNat)
   case atStart=>exact ⟨0,by omega,rfl,HW.out,HB.out⟩
   case round =>
    obtain ⟨e,he,rfl,hdw,hbe⟩:=hrel
    have HW:=Hd hdw
    have HB:=Hd hbe
    clear hdw hbe
    rcases (by omega:e=0∨e=1∨e=2) with h|h|h
    ·subst h
     have hc1:=aC (k:=1) HW.out.tile rfl
     have hcs:=aC (k:=0) HW.out.les rfl
     go_wp2_with fail
     clear hc1 hcs
     go_loopw [41] (fun i wr=>∃j:Nat,j<=4/\i = .int .i64 j/\DW wr ⟨g,gr,gc,gm,gl,g0,g1⟩ A n c (5 * M+3 * j) M ⟨di ws 0 5 M M,di ws (5 * M) 3 4 j,Z4,0,0,0,0,0,0,0,0⟩/\Below w.heap.size w wr) (fun i _=>4 - (intOf i).toNat)
     case atStart=>exact ⟨0,Nat.zero_le _,rfl,HW.out,HB.out⟩
     case round =>
      obtain ⟨j,hj,rfl,hdw,hbe⟩:=hrel
      have HW:=Hd hdw
      have HB:=Hd hbe
      clear hdw hbe
      by_cases hlt:j<4
      ·have hc1:=aC (k:=1) HW.out.tile rfl
       have hcs:=aC (k:=0) HW.out.les rfl
       have HNL:=Hd (gW (ws:=ws) (p:=5 * M) (b:=3) (N:=4) (k:=j) (by omega))
       have i0:(0:Int)<=(j:Int):=by omega
       have i1:(j:Int)<4:=by omega
       go_wp2_with fail
       go_region_held3 (fun w'=>w'.cell? ⟨gc,1,none⟩=some (.slice (some ⟨gl,0,none⟩) 2 2)/\w'.cell? ⟨gl,0,none⟩=some (.slice (some ⟨g0,0,none⟩) 4 4))
        (first|exact ⟨hc1,hcs⟩|exact ⟨hc2,hcs2⟩|exact ⟨dN hc2 (by simp only;exact HSEP.out.n3.2.2.1.symm),dN hcs2 (by simp only;exact HSEP.out.n5.1.symm)⟩)
        (first
         | (go_at_call 225;(with_reducible refine (kX g A n c ws (5 * M+3 * j) 3 3 _ rfl (kW HW.out.r) (HI.out.below HB.out).drewd HNE.out HIN.out (by omega) (by omega) (by omega)).mono ?_);rintro e w2 ⟨rfl,hr2,hg2⟩;have W2:=Hd (HW.out.drew.got HSEP.out hr2 hg2);have B2:=Hd (fD HB.out.drew hg2 HB.out.size hlo);clear hr2 hg2;have hc2:=aC (k:=1) W2.out.tile rfl;have hcs2:=aC (k:=0) W2.out.les rfl;have hcm2:=aC (k:=j) W2.out.s0 (dz (by rw [HNL.out];exact hlt));have hfm2:=aF W2.out.s0 j))
       go_wp2_with fail
       go_roundw
       case rel =>
        have hset:=W2.out.setS0 HSEP.out j (bC ws (5 * M+3 * j) 3)
        have e:=rT (ws:=ws) (p:=5 * M) (b:=3) hlt
        refine ⟨j+1,by omega,by go_num,?_,?_⟩
        ·simp only [e] at hset
         exact hset
        ·exact B2.out.setCell (p:=⟨g0,j,none⟩) hlo0 _
       case measure=>simp [intOf];omega
      ·have hj4:j=4:=by omega
       subst hj4
       go_wp2_with fail
       replace HW:=Hd (show DW wr _ A n c (5 * M+12) M _ from HW.out)
       have hc1:=aC (k:=1) HW.out.tile rfl
       go_region_held3 (fun w'=>w'.cell? ⟨gc,1,none⟩=some (.slice (some ⟨gl,0,none⟩) 2 2))
        (first|exact hc1|exact hc2|exact dN hc2 (by simp only;exact HSEP.out.n3.2.1.symm))
        (first
         | (go_at_call 225;(with_reducible refine (kX g A n c ws (5 * M+12) 16 16 _ rfl (kW HW.out.r) (HI.out.below HB.out).drewd HNE.out HIN.out (by omega) (by omega) (by omega)).mono ?_);rintro e w2 ⟨rfl,hr2,hg2⟩;have W2:=Hd (HW.out.drew.got HSEP.out hr2 hg2);have B2:=Hd (fD HB.out.drew hg2 HB.out.size hlo);clear hr2 hg2;have hc2:=aC (k:=1) W2.out.tile rfl;have hcm2:=aC (k:=1) W2.out.les rfl;have hfm2:=aF W2.out.les 1))
       replace HW:=Hd (show DW _ _ A n c (5 * M+28) M _ from W2.out.setA0 HSEP.out (bC ws (5 * M+12) 16))
       replace HB:=Hd (B2.out.setCell (p:=⟨gl,1,none⟩) hlol (.int .i64 (bC ws (5 * M+12) 16)))
       generalize w2.setCell ⟨gl,1,none⟩ (.int .i64 (bC ws (5 * M+12) 16))=w3 at *
       clear hc1 hc2 hcm2 hfm2 W2 B2
       go_wp2_with fail
       have hc1:=aC (k:=1) HW.out.tile rfl
       go_region_held3 (fun w'=>w'.cell? ⟨gc,1,none⟩=some (.slice (some ⟨gl,0,none⟩) 2 2))
        (first|exact hc1|exact hc2|exact dN hc2 (by simp only;exact HSEP.out.n3.2.1.symm))
        (first
         | (go_at_call 225;(with_reducible refine (kX g A n c ws (5 * M+28) 1 1 _ rfl (kW HW.out.r) (HI.out.below HB.out).drewd HNE.out HIN.out (by omega) (by omega) (by omega)).mono ?_);rintro e w2 ⟨rfl,hr2,hg2⟩;have W2:=Hd (HW.out.drew.got HSEP.out hr2 hg2);have B2:=Hd (fD HB.out.drew hg2 HB.out.size hlo);clear hr2 hg2;have hc2:=aC (k:=1) W2.out.tile rfl;have hcm2:=aC (k:=2) W2.out.les rfl;have hfm2:=aF W2.out.les 2))
       replace HW:=Hd (show DW _ _ A n c (5 * M+29) M _ from W2.out.setB0 HSEP.out (bC ws (5 * M+28) 1))
       replace HB:=Hd (B2.out.setCell (p:=⟨gl,2,none⟩) hlol (.int .i64 (bC ws (5 * M+28) 1)))
       generalize w2.setCell ⟨gl,2,none⟩ (.int .i64 (bC ws (5 * M+28) 1))=w4 at *
       clear hc1 hc2 hcm2 hfm2 W2 B2
       go_wp2_with fail
       have hc1:=aC (k:=1) HW.out.tile rfl
       go_region_held3 (fun w'=>w'.cell? ⟨gc,1,none⟩=some (.slice (some ⟨gl,0,none⟩) 2 2))
        (first|exact hc1|exact hc2|exact dN hc2 (by simp only;exact HSEP.out.n3.2.1.symm))
        (first
         | (go_at_call 225;(with_reducible refine (kX g A n c ws (5 * M+29) 1 1 _ rfl (kW HW.out.r) (HI.out.below HB.out).drewd HNE.out HIN.out (by omega) (by omega) (by omega)).mono ?_);rintro e w2 ⟨rfl,hr2,hg2⟩;have W2:=Hd (HW.out.drew.got HSEP.out hr2 hg2);have B2:=Hd (fD HB.out.drew hg2 HB.out.size hlo);clear hr2 hg2;have hc2:=aC (k:=1) W2.out.tile rfl;have hcm2:=aC (k:=3) W2.out.les rfl;have hfm2:=aF W2.out.les 3))
       replace HW:=Hd (show DW _ _ A n c (5 * M+30) M _ from W2.out.setC0 HSEP.out (bC ws (5 * M+29) 1))
       replace HB:=Hd (B2.out.setCell (p:=⟨gl,3,none⟩) hlol (.int .i64 (bC ws (5 * M+29) 1)))
       generalize w2.setCell ⟨gl,3,none⟩ (.int .i64 (bC ws (5 * M+29) 1))=w5 at *
       clear hc1 hc2 hcm2 hfm2 W2 B2
       go_wp2_with fail
       go_roundw
       case rel=>exact ⟨1,by omega,by go_num,HW.out,HB.out⟩
       case measure=>simp [intOf]
    ·subst h
     have hc1:=aC (k:=1) HW.out.tile rfl
     have hcs:=aC (k:=4) HW.out.les rfl
     go_wp2_with fail
     clear hc1 hcs
     go_loopw [41] (fun i wr=>∃j:Nat,j<=4/\i = .int .i64 j/\DW wr ⟨g,gr,gc,gm,gl,g0,g1⟩ A n c (5 * M+30+3 * j) M ⟨di ws 0 5 M M,di ws (5 * M) 3 4 4,di ws (5 * M+30) 3 4 j,bC ws (5 * M+12) 16,bC ws (5 * M+28) 1,bC ws (5 * M+29) 1,0,0,0,0,0⟩/\Below w.heap.size w wr) (fun i _=>4 - (intOf i).toNat)
     case atStart=>exact ⟨0,Nat.zero_le _,rfl,HW.out,HB.out⟩
     case round =>
      obtain ⟨j,hj,rfl,hdw,hbe⟩:=hrel
      have HW:=Hd hdw
      have HB:=Hd hbe
      clear hdw hbe
      by_cases hlt:j<4
      ·have hc1:=aC (k:=1) HW.out.tile rfl
       have hcs:=aC (k:=4) HW.out.les rfl
       have HNL:=Hd (gW (ws:=ws) (p:=5 * M+30) (b:=3) (N:=4) (k:=j) (by omega))
       have i0:(0:Int)<=(j:Int):=by omega
       have i1:(j:Int)<4:=by omega
       go_wp2_with fail
       go_region_held3 (fun w'=>w'.cell? ⟨gc,1,none⟩=some (.slice (some ⟨gl,0,none⟩) 2 2)/\w'.cell? ⟨gl,4,none⟩=some (.slice (some ⟨g1,0,none⟩) 4 4))
        (first|exact ⟨hc1,hcs⟩|exact ⟨hc2,hcs2⟩|exact ⟨dN hc2 (by simp only;exact HSEP.out.n3.2.2.2.symm),dN hcs2 (by simp only;exact HSEP.out.n5.2.1.symm)⟩)
        (first
         | (go_at_call 225;(with_reducible refine (kX g A n c ws (5 * M+30+3 * j) 3 3 _ rfl (kW HW.out.r) (HI.out.below HB.out).drewd HNE.out HIN.out (by omega) (by omega) (by omega)).mono ?_);rintro e w2 ⟨rfl,hr2,hg2⟩;have W2:=Hd (HW.out.drew.got HSEP.out hr2 hg2);have B2:=Hd (fD HB.out.drew hg2 HB.out.size hlo);clear hr2 hg2;have hc2:=aC (k:=1) W2.out.tile rfl;have hcs2:=aC (k:=4) W2.out.les rfl;have hcm2:=aC (k:=j) W2.out.s1 (dz (by rw [HNL.out];exact hlt));have hfm2:=aF W2.out.s1 j))
       go_wp2_with fail
       go_roundw
       case rel =>
        have hset:=W2.out.setS1 HSEP.out j (bC ws (5 * M+30+3 * j) 3)
        have e:=rT (ws:=ws) (p:=5 * M+30) (b:=3) hlt
        refine ⟨j+1,by omega,by go_num,?_,?_⟩
        ·simp only [e] at hset
         exact hset
        ·exact B2.out.setCell (p:=⟨g1,j,none⟩) hlo1 _
       case measure=>simp [intOf];omega
      ·have hj4:j=4:=by omega
       subst hj4
       go_wp2_with fail
       replace HW:=Hd (show DW wr _ A n c (5 * M+30+12) M _ from HW.out)
       have hc1:=aC (k:=1) HW.out.tile rfl
       go_region_held3 (fun w'=>w'.cell? ⟨gc,1,none⟩=some (.slice (some ⟨gl,0,none⟩) 2 2))
        (first|exact hc1|exact hc2|exact dN hc2 (by simp only;exact HSEP.out.n3.2.1.symm))
        (first
         | (go_at_call 225;(with_reducible refine (kX g A n c ws (5 * M+30+12) 16 16 _ rfl (kW HW.out.r) (HI.out.below HB.out).drewd HNE.out HIN.out (by omega) (by omega) (by omega)).mono ?_);rintro e w2 ⟨rfl,hr2,hg2⟩;have W2:=Hd (HW.out.drew.got HSEP.out hr2 hg2);have B2:=Hd (fD HB.out.drew hg2 HB.out.size hlo);clear hr2 hg2;have hc2:=aC (k:=1) W2.out.tile rfl;have hcm2:=aC (k:=5) W2.out.les rfl;have hfm2:=aF W2.out.les 5))
       replace HW:=Hd (show DW _ _ A n c (5 * M+30+28) M _ from W2.out.setA1 HSEP.out (bC ws (5 * M+30+12) 16))
       replace HB:=Hd (B2.out.setCell (p:=⟨gl,5,none⟩) hlol (.int .i64 (bC ws (5 * M+30+12) 16)))
       generalize w2.setCell ⟨gl,5,none⟩ (.int .i64 (bC ws (5 * M+30+12) 16))=w3 at *
       clear hc1 hc2 hcm2 hfm2 W2 B2
       go_wp2_with fail
       have hc1:=aC (k:=1) HW.out.tile rfl
       go_region_held3 (fun w'=>w'.cell? ⟨gc,1,none⟩=some (.slice (some ⟨gl,0,none⟩) 2 2))
        (first|exact hc1|exact hc2|exact dN hc2 (by simp only;exact HSEP.out.n3.2.1.symm))
        (first
         | (go_at_call 225;(with_reducible refine (kX g A n c ws (5 * M+30+28) 1 1 _ rfl (kW HW.out.r) (HI.out.below HB.out).drewd HNE.out HIN.out (by omega) (by omega) (by omega)).mono ?_);rintro e w2 ⟨rfl,hr2,hg2⟩;have W2:=Hd (HW.out.drew.got HSEP.out hr2 hg2);have B2:=Hd (fD HB.out.drew hg2 HB.out.size hlo);clear hr2 hg2;have hc2:=aC (k:=1) W2.out.tile rfl;have hcm2:=aC (k:=6) W2.out.les rfl;have hfm2:=aF W2.out.les 6))
       replace HW:=Hd (show DW _ _ A n c (5 * M+30+29) M _ from W2.out.setB1 HSEP.out (bC ws (5 * M+30+28) 1))
       replace HB:=Hd (B2.out.setCell (p:=⟨gl,6,none⟩) hlol (.int .i64 (bC ws (5 * M+30+28) 1)))
       generalize w2.setCell ⟨gl,6,none⟩ (.int .i64 (bC ws (5 * M+30+28) 1))=w4 at *
       clear hc1 hc2 hcm2 hfm2 W2 B2
       go_wp2_with fail
       have hc1:=aC (k:=1) HW.out.tile rfl
       go_region_held3 (fun w'=>w'.cell? ⟨gc,1,none⟩=some (.slice (some ⟨gl,0,none⟩) 2 2))
        (first|exact hc1|exact hc2|exact dN hc2 (by simp only;exact HSEP.out.n3.2.1.symm))
        (first
         | (go_at_call 225;(with_reducible refine (kX g A n c ws (5 * M+30+29) 1 1 _ rfl (kW HW.out.r) (HI.out.below HB.out).drewd HNE.out HIN.out (by omega) (by omega) (by omega)).mono ?_);rintro e w2 ⟨rfl,hr2,hg2⟩;have W2:=Hd (HW.out.drew.got HSEP.out hr2 hg2);have B2:=Hd (fD HB.out.drew hg2 HB.out.size hlo);clear hr2 hg2;have hc2:=aC (k:=1) W2.out.tile rfl;have hcm2:=aC (k:=7) W2.out.les rfl;have hfm2:=aF W2.out.les 7))
       replace HW:=Hd (show DW _ _ A n c (5 * M+30+30) M _ from W2.out.setC1 HSEP.out (bC ws (5 * M+30+29) 1))
       replace HB:=Hd (B2.out.setCell (p:=⟨gl,7,none⟩) hlol (.int .i64 (bC ws (5 * M+30+29) 1)))
       generalize w2.setCell ⟨gl,7,none⟩ (.int .i64 (bC ws (5 * M+30+29) 1))=w5 at *
       clear hc1 hc2 hcm2 hfm2 W2 B2
       go_wp2_with fail
       go_roundw
       case rel=>exact ⟨2,by omega,by go_num,HW.out,HB.out⟩
       case measure=>simp [intOf]
    ·subst h
     go_wp2_with fail
     refine (kX g A n c ws (5 * M+60) 2 2 _ rfl HW.out.r (HI.out.below HB.out) HNE.out HIN.out (by omega) (by omega) (by omega)).mono ?_
     rintro e w2 ⟨rfl,hr2,hg2⟩
     have W2:=Hd (HW.out.got HSEP.out hr2 hg2)
     have B2:=Hd (fD HB.out hg2 HB.out.size hlo)
     have hcm2:=aC (k:=2) W2.out.tile rfl
     have hfm2:=aF W2.out.tile 2
     clear hr2 hg2
     go_wp2_with fail
     replace HW:=Hd (W2.out.setPad HSEP.out (bC ws (5 * M+60) 2))
     replace HB:=Hd (B2.out.setCell (p:=⟨gc,2,none⟩) hlog (.int .i64 (bC ws (5 * M+60) 2)))
     generalize w2.setCell ⟨gc,2,none⟩ (.int .i64 (bC ws (5 * M+60) 2))=w3 at *
     clear hcm2 hfm2 W2 B2
     refine (kX g A n c ws (5 * M+62) 5 5 _ rfl HW.out.r (HI.out.below HB.out) HNE.out HIN.out (by omega) (by omega) (by omega)).mono ?_
     rintro e w4 ⟨rfl,hr2,hg2⟩
     have W2:=Hd (HW.out.got HSEP.out hr2 hg2)
     have B2:=Hd (fD HB.out hg2 HB.out.size hlo)
     have hcm2:=aC (k:=3) W2.out.tile rfl
     have hfm2:=aF W2.out.tile 3
     have m0:=aC (k:=0) W2.out.tile rfl
     have m1:=aC (k:=1) W2.out.tile rfl
     have m2:=aC (k:=2) W2.out.tile rfl
     have r0:=aC (k:=0) W2.out.res rfl
     have r1:=aC (k:=1) W2.out.res rfl
     have r2:=aC (k:=2) W2.out.res rfl
     have r3:=aC (k:=3) W2.out.res rfl
     have s0:=aF W2.out.res 0
     have s1:=aF W2.out.res 1
     have s2:=aF W2.out.res 2
     have s3:=aF W2.out.res 3
     have hne:gr≠gc:=HSEP.out.n2.1
     clear hr2 hg2
     go_wp2_with fail
     have X:=W2.out.setRam HSEP.out (bC ws (5 * M+62) 5)
     have Y:=(((X.dt.setR HSEP.out 0 (.slice (some ⟨gm,0,none⟩) M M)).setR HSEP.out 1 (.slice (some ⟨gl,0,none⟩) 2 2)).setR HSEP.out 2 (.int .i64 (bC ws (5 * M+60) 2))).setR HSEP.out 3 (.int .i64 (bC ws (5 * M+62) 5))
     have hx:=gP (v0 := .slice (some ⟨gm,0,none⟩) M M) (v1 := .slice (some ⟨gl,0,none⟩) 2 2) (v2 := .int .i64 (bC ws (5 * M+60) 2)) (v3 := .int .i64 (bC ws (5 * M+62) 5)) X.res
     have O:=Y.done (M:=M) HSEP.out (gW (Nat.le_refl _)) (by unfold maxLen;omega) (gW (Nat.le_refl _)) (gW (Nat.le_refl _))
     have hB:=((((B2.out.setCell (p:=⟨gc,3,none⟩) hlog (.int .i64 (bC ws (5 * M+62) 5))).setCell (p:=⟨gr,0,none⟩) hlor (.slice (some ⟨gm,0,none⟩) M M)).setCell (p:=⟨gr,1,none⟩) hlor (.slice (some ⟨gl,0,none⟩) 2 2)).setCell (p:=⟨gr,2,none⟩) hlor (.int .i64 (bC ws (5 * M+60) 2))).setCell (p:=⟨gr,3,none⟩) hlor (.int .i64 (bC ws (5 * M+62) 5))
     have eT:T=_:=FZ HDT.out
     simp only at hx O
     generalize ((((w4.setCell ⟨gc,3,none⟩ (.int .i64 (bC ws (5 * M+62) 5))).setCell ⟨gr,0,none⟩ (.slice (some ⟨gm,0,none⟩) M M)).setCell ⟨gr,1,none⟩ (.slice (some ⟨gl,0,none⟩) 2 2)).setCell ⟨gr,2,none⟩ (.int .i64 (bC ws (5 * M+60) 2))).setCell ⟨gr,3,none⟩ (.int .i64 (bC ws (5 * M+62) 5))=w5 at *
     have d0:=aC (k:=0) hx rfl
     have d1:=aC (k:=1) hx rfl
     have d2:=aC (k:=2) hx rfl
     have d3:=aC (k:=3) hx rfl
     exact bodyPost_ret (v := .agg #[.slice (some ⟨gm,0,none⟩) M M,.slice (some ⟨gl,0,none⟩) 2 2,.int .i64 (bC ws (5 * M+60) 2),.int .i64 (bC ws (5 * M+62) 5)]) (by simp [results,Tryz.results192,go_sem,d0,d1,d2,d3]) rfl (HP.out _ _ _ eT ⟨_,_,rfl,O⟩ hB)
end Go.Proofs.YtignkfhdkcgkgaaGreat
