/- Acts that come in; the laws' count, copy, comparison and marking of acts (printed by mkact.py). -/
import Derived.Test.YtignkfhdkcgkgaaGreatDrwAs
namespace Go.Proofs.YtignkfhdkcgkgaaGreat
set_option maxHeartbeats 4000000
set_option maxRecDepth 100000
open Go.RowKit Go.ChangeShapes Go.WideShapes Go.ChangeAt
section
variable {H:Type} {enc:TypeId × Value→H} {W:World} {b0 base:Nat} {held:Bool}
theorem Cn {a:Addr} {cs:List Value} (h:W.cells? base a 9=some cs):∃c0 c1 c2 c3 c4 c5 c6 c7 c8,cs=[c0,c1,c2,c3,c4,c5,c6,c7,c8]/\W.cell? (a.add 0)=some c0/\W.cell? (a.add 1)=some c1/\W.cell? (a.add 2)=some c2/\W.cell? (a.add 3)=some c3/\W.cell? (a.add 4)=some c4/\W.cell? (a.add 5)=some c5/\W.cell? (a.add 6)=some c6/\W.cell? (a.add 7)=some c7/\W.cell? (a.add 8)=some c8:=by
 obtain ⟨_,hl,hc⟩:=World.cells?_some h
 match cs,hl with
 | [c0,c1,c2,c3,c4,c5,c6,c7,c8],_=>exact ⟨c0,c1,c2,c3,c4,c5,c6,c7,c8,rfl,hc 0 (by omega),hc 1 (by omega),hc 2 (by omega),hc 3 (by omega),hc 4 (by omega),hc 5 (by omega),hc 6 (by omega),hc 7 (by omega),hc 8 (by omega)⟩
theorem Fy {fuel:Nat} {c0 c1 c2 c3 c4 c5 c6 c7 c8:Value} {y:DataW H × List MemPlace} (h:DataW.trod enc Tryz.prog W base (fun _=>true) held fuel 85 [c0,c1,c2,c3,c4,c5,c6,c7,c8]=some y):∃(x:Ac) (WA:Option Addr) (wn wc:Nat),c0 = .int .i64 x.kind/\c1 = .int .i64 x.A/\c2 = .int .i64 x.B/\c3 = .int .i64 x.C/\c4 = .int .i64 x.reg.X0/\c5 = .int .i64 x.reg.Y0/\c6 = .int .i64 x.reg.X1/\c7 = .int .i64 x.reg.Y1/\c8 = .slice WA wn wc/\bH W WA wn x.words/\wn<=maxLen:=by
 obtain ⟨y0,y1,y2,y3,y4,y5,n,h0,h1,h2,h3,h4,h5⟩:=sw Tryz.underlying85 h
 have k2:Tryz.prog.cellsOf 27=1:=by kernel_rfl
 have k3:Tryz.prog.cellsOf 3=1:=by kernel_rfl
 have k4:Tryz.prog.cellsOf 42=4:=by kernel_rfl
 simp only [k2,k3,k4,List.drop,List.take] at h0 h1 h2 h3 h4 h5
 obtain ⟨a0,e0,_,w0⟩:=DataW.trod_int Tryz.underlying3 h0
 obtain ⟨a1,e1,_,w1⟩:=DataW.trod_int Tryz.underlying3 h1
 obtain ⟨a2,e2,_,w2⟩:=DataW.trod_int Tryz.underlying3 h2
 obtain ⟨a3,e3,_,w3⟩:=DataW.trod_int Tryz.underlying3 h3
 obtain ⟨rg,rfl,rfl,rfl,rfl⟩:=BF h4
 obtain ⟨A5,n5,m5,xs5,rfl,r5,l5⟩:=xk h5
 simp only [List.cons.injEq,and_true] at e0 e1 e2 e3
 exact ⟨⟨a0,a1,a2,a3,rg,xs5⟩,A5,n5,m5,e0,e1,e2,e3,rfl,rfl,rfl,rfl,rfl,r5,l5⟩
theorem C8 {a:Addr} {v:Value} (h:W.cell? a=some v):∃b o,a=⟨b,o,none⟩/\b<W.heap.size:=by
 obtain ⟨b,o,s⟩:=a
 have hs:s=none:=World.cell?_spot h
 subst hs
 exact ⟨b,o,rfl,vI h⟩
theorem Fz (b o i j:Nat):((⟨b,o,none⟩:Addr).add i).add j=⟨b,o+(i+j),none⟩:=by rw [Go.Deep.add_add,Addr.add_lit]
theorem Em {v:Value} {d:DataW H} {p:List MemPlace} (hv:Value.okWide Tryz.prog W .any b0 45 v) (h:DataW.Trod enc Tryz.prog W base (fun _=>true) held 45 v d p) :
  ∃(A:Option Addr) (n c:Nat) (xs:List Ac),v = .slice A n c/\iM W A n xs/\n<=maxLen/\∀x∈xs,x.words.length<=maxLen:=by
 obtain ⟨A,n,c,rfl⟩:=okWide_slice Tryz.underlying45 hv
 obtain ⟨fuel,hf⟩:=h
 have hs:Tryz.prog.cellsOf 85=9:=by kernel_rfl
 rcases Go.Deep.open_slice Tryz.underlying45 hf with ⟨hcs,_⟩|⟨a,len,cap,m,n',D,Pl,hcs,_,hl,hm,hmm,_,hx⟩
 ·simp [Value.cells] at hcs
  obtain ⟨rfl,rfl,rfl⟩:=hcs
  exact ⟨none,0,0,[],rfl,⟨rfl,fun h=>absurd h (by omega)⟩,Nat.zero_le _,by simp⟩
 ·simp [Value.cells] at hcs
  obtain ⟨rfl,rfl,rfl⟩:=hcs
  simp only [if_true] at hmm
  rw [hs] at hx
  have hone:∀i,i<n→∃z:Ac × Option Addr × Nat × Nat,bH W z.2.1 z.2.2.1 z.1.words/\z.2.2.1<=maxLen/\W.cell? ((a.add (i * 9)).add 0)=some (.int .i64 z.1.kind)/\W.cell? ((a.add (i * 9)).add 1)=some (.int .i64 z.1.A)/\W.cell? ((a.add (i * 9)).add 2)=some (.int .i64 z.1.B)/\W.cell? ((a.add (i * 9)).add 3)=some (.int .i64 z.1.C)/\W.cell? ((a.add (i * 9)).add 4)=some (.int .i64 z.1.reg.X0)/\W.cell? ((a.add (i * 9)).add 5)=some (.int .i64 z.1.reg.Y0)/\W.cell? ((a.add (i * 9)).add 6)=some (.int .i64 z.1.reg.X1)/\W.cell? ((a.add (i * 9)).add 7)=some (.int .i64 z.1.reg.Y1)/\W.cell? ((a.add (i * 9)).add 8)=some (.slice z.2.1 z.2.2.1 z.2.2.2):=fun i hi=>by
   obtain ⟨cs',h1,h2⟩:=hx i (by omega)
   obtain ⟨c0,c1,c2,c3,c4,c5,c6,c7,c8,rfl,g0,g1,g2,g3,g4,g5,g6,g7,g8⟩:=Cn h1
   obtain ⟨x,MA,mn,mc,rfl,rfl,rfl,rfl,rfl,rfl,rfl,rfl,rfl,hi,hm⟩:=Fy h2
   exact ⟨(x,MA,mn,mc),hi,hm,g0,g1,g2,g3,g4,g5,g6,g7,g8⟩
  have:Inhabited (Ac × Option Addr × Nat × Nat):=⟨(Ac.zero,none,0,0)⟩
  obtain ⟨f,hf⟩:=Go.Deep.choose_lt hone
  refine ⟨_,n,c,(List.range n).map fun i=>(f i).1,rfl,⟨by simp,fun hn=>?_⟩,Nat.le_trans hl hm,?_⟩
  ·obtain ⟨_,_,g0,_⟩:=hf 0 hn
   rw [Go.Deep.add_add,Nat.zero_mul] at g0
   obtain ⟨b,o,ha,hb⟩:=C8 g0
   have ha2:a=⟨b,o,none⟩:=by
    obtain ⟨b',o',s'⟩:=a
    simp only [Addr.add,Nat.add_zero] at ha
    exact ha
   subst ha2
   simp only [Fz] at hf
   refine ⟨b,o,rfl,hb,fun j hj=>?_⟩
   obtain ⟨q1,q2,g0,g1,g2,g3,g4,g5,g6,g7,g8⟩:=hf j hj
   simp only [←Nat.add_assoc,Nat.add_zero] at g0 g1 g2 g3 g4 g5 g6 g7 g8
   rw [show ((List.range n).map fun i=>(f i).1)[j]?.getD Ac.zero=(f j).1 by rw [List.getElem?_map,List.getElem?_range hj];rfl]
   exact ⟨_,_,_,g0,g1,g2,g3,g4,g5,g6,g7,g8,q1⟩
  ·intro x hx2
   obtain ⟨i,hi,rfl⟩:=List.mem_map.1 hx2
   have hi:=List.mem_range.1 hi
   obtain ⟨q1,q2,_⟩:=hf i hi
   rw [q1.1];exact q2
end
def rQ (xs:List Ac):Nat→Nat
 | 0=>0
 | k+1=>rQ xs k+(xs[k]?.getD Ac.zero).words.length
def szA (xs:List Ac):Nat:=xs.length+rQ xs xs.length
theorem xq (xs : List Ac) {j k : Nat} (h : j <= k) : rQ xs j <= rQ xs k := by
  induction k with
  | zero => obtain rfl : j = 0 := by omega
            exact Nat.le_refl _
  | succ k ih =>
    rcases Nat.lt_or_ge k j with h1 | h1
    · obtain rfl : j = k + 1 := by omega
      exact Nat.le_refl _
    · have := ih h1
      rw [rQ]; omega
theorem uH {xs:List Ac} {M:Nat} (h:szA xs<=M) (i:Nat):xs.length<=M/\(xs[i]?.getD Ac.zero).words.length<=M:=by
 unfold szA at h
 rcases Nat.lt_or_ge i xs.length with hi|hi
 ·have h1:=xq xs (show i+1<=xs.length from hi)
  rw [rQ] at h1
  omega
 ·rw [List.getElem?_eq_none hi]
  exact ⟨by omega,by simp [Ac.zero]⟩
theorem DC (x:Ac) (A:Option Addr) (n c:Nat) (L:Int) (w:World) (h0:0<=L) (h1:L<=1099511627776) (m1:n<=9223372036854775807) :
  Calls Tryz.prog 47 #[.agg (dJ x A n c),.int .i64 L] w fun e w'=>e = .returned (.int .i64 (uK L n))/\Below w.heap.size w w':=by
 have HB:=Hd (aB (Below.refl w.heap.size w) (.cells (dJ x A n c) 85))
 go_enter Tryz.func47,Tryz.ntmps47
 go_wp2_with fail
 refine (rT A n c L _ (by omega) (by omega) (by omega)).mono ?_
 rintro e w' ⟨rfl,rfl⟩
 by_cases g1:(n:Int)<=L
 ·rw [fG g1]
  have e1:decide (L - (n:Int)<0)=false:=by simp;omega
  go_wp2_with fail
  go_ret
  exact ⟨aP (by rw [fG (by omega)]),HB.out⟩
 ·rw [eD g1]
  go_wp2_with fail
  go_ret
  exact ⟨aP (by rw [eD (by omega)]),HB.out⟩
theorem DD (A:Option Addr) (n c:Nat) (xs:List Ac) (L:Int) (w:World) (h:iM w A n xs) (hL:0<=L) (hL':L<=1099511627776) (hn:n<=9223372036854775807) (hb:∀x∈xs,x.words.length<=maxLen) :
  Calls Tryz.prog 15 #[.slice A n c,.int .i64 L] w fun e w'=>e = .returned (.int .i64 (uK L (szA xs)))/\Below w.heap.size w w':=by
 have HX:Hid (xs.length=n):=h.1
 have HR:=Hd h
 have HD:=Hd hb
 clear h hb
 by_cases h0:(n:Int)<=L
 ·have hd:decide (L - (n:Int)<0)=false:=by simp;omega
  go_enter Tryz.func15,Tryz.ntmps15
  go_wp2_with fail
  go_loopw [1,5] (fun v i wr=>∃k:Nat,k<=n/\i = .int .i64 k/\v = .int .i64 (L - n - rQ xs k)/\(rQ xs k:Int)<=L - n/\Below w.heap.size w wr) (fun _ i _=>n - (intOf i).toNat)
  case atStart=>exact ⟨0,Nat.zero_le _,rfl,by simp [rQ],by simp [rQ];omega,Below.refl _ _⟩
  case round =>
   obtain ⟨k,hk,rfl,rfl,hle,hbe⟩:=hrel
   have HBE:=Hd hbe
   clear hbe
   by_cases hlt:k<n
   ·have hdk:decide ((k:Int)<(n:Int))=true:=by simp;omega
    obtain ⟨b,o,rfl,hb,hc⟩:=(HR.out.below HBE.out).2 (by omega)
    obtain ⟨WA,wn,wc,a0,a1,a2,a3,a4,a5,a6,a7,a8,hwi⟩:=hc k hlt
    have hm:wn=(xs[k]?.getD Ac.zero).words.length:=hwi.1.symm
    have hm':wn<=9223372036854775807:=by
     have hkx:k<xs.length:=by rw [HX.out];exact hlt
     have:=HD.out (xs[k]) (List.getElem_mem hkx)
     rw [List.getElem?_eq_getElem hkx] at hm
     simp only [Option.getD_some] at hm
     unfold maxLen at this
     omega
    have i0:(0:Int)<=(k:Int):=by omega
    have i1:(k:Int)<(n:Int):=by omega
    have HM:=Hd hm
    have HS:Hid (rQ xs (k+1)=rQ xs k+(xs[k]?.getD Ac.zero).words.length):=rfl
    have HF:Hid (rQ xs (k+1)<=rQ xs n):=xq xs (by omega)
    clear hc hwi hm
    generalize rQ xs k=s at *
    generalize xs[k]?.getD Ac.zero=x at *
    go_wp2_with fail
    refine (DC x WA wn wc _ _ (by omega) (by omega) hm').mono ?_
    rintro e w' ⟨rfl,b'⟩
    have HB2:=Hd (aA HBE.out b')
    clear b' a0 a1 a2 a3 a4 a5 a6 a7 a8
    by_cases h1:(wn:Int)<=L - n - s
    ·rw [fG h1]
     have hd2:decide (L - (n:Int) - s - (wn:Int)<0)=false:=by simp;omega
     go_wp2_with fail
     go_roundw
     case rel=>exact ⟨k+1,by omega,by go_num,by rw [HS.out,←HM.out];congr 1;omega,by rw [HS.out,←HM.out];omega,HB2.out⟩
     case measure=>simp [intOf];omega
    ·rw [eD h1]
     go_wp2_with fail
     go_ret
     exact ⟨aP (by rw [eD];have h2:=HF.out;rw [HS.out,←HM.out] at h2;unfold szA;rw [HX.out];omega),HB2.out⟩
   ·have hkn:k=n:=by omega
    subst hkn
    have hdk:decide ((k:Int)<(k:Int))=false:=by simp
    go_wp2_with fail
    go_ret
    exact ⟨aP (by rw [fG (by unfold szA;rw [HX.out];omega)];unfold szA;rw [HX.out];omega),HBE.out⟩
 ·have hd:decide (L - (n:Int)<0)=true:=by simp;omega
  go_enter Tryz.func15,Tryz.ntmps15
  go_wp2_with fail
  go_ret
  exact ⟨aP (by rw [eD];unfold szA;rw [HX.out];omega),Below.refl _ _⟩
theorem BI (A B:Option Addr) (n m c d:Nat) (xs:List Ac) (w:World) (hA:iM w A n xs) (hB:iM w B m xs) (hz:∀i:Nat,(xs[i]?.getD Ac.zero).words.length<=1099511627776) (hn:n<=1099511627776) :
  Calls Tryz.prog 21 #[.slice A n c,.slice B m d] w fun e w'=>e = .returned (.bool true)/\Below w.heap.size w w':=by
 have hx:=hA.1
 have hy:=hB.1
 obtain rfl:m=n:=by omega
 have HA:=Hd hA
 have HB:=Hd hB
 have HR:=Hd hz
 clear hx hy hz hA hB
 go_enter Tryz.func21,Tryz.ntmps21
 go_wp2_with fail
 go_loopw [5] (fun i wr=>∃k:Nat,k<=m/\i = .int .i64 k/\Below w.heap.size w wr) (fun i _=>m - (intOf i).toNat)
 case atStart=>exact ⟨0,Nat.zero_le _,rfl,Below.refl _ _⟩
 case round =>
  obtain ⟨k,hk,rfl,hbe⟩:=hrel
  have HBE:=Hd hbe
  by_cases hlt:k<m
  ·have hdk:decide ((k:Int)<(m:Int))=true:=by simp;omega
   obtain ⟨b,o,rfl,hb,hc⟩:=(HA.out.below hbe).2 (by omega)
   obtain ⟨WA,wn,wc,a0,a1,a2,a3,a4,a5,a6,a7,a8,hwi⟩:=hc k hlt
   obtain ⟨b',o',rfl,hb',hc'⟩:=(HB.out.below hbe).2 (by omega)
   obtain ⟨WB,vn,vc,d0,d1,d2,d3,d4,d5,d6,d7,d8,hvi⟩:=hc' k hlt
   have hrl:=HR.out k
   generalize xs[k]?.getD Ac.zero=x at *
   have hwn:wn<=1099511627776:=by have:=hwi.1;omega
   have HEQ:=Hd (fun (w':World) (hw:Below wr.heap.size wr w')=>Ci x WA WB wn vn wc vc w' (hwi.below hw) (hvi.below hw) hwn)
   have i0:(0:Int)<=(k:Int):=by omega
   have i1:(k:Int)<(m:Int):=by omega
   have hD:=Below.refl wr.heap.size wr
   clear hwi hvi hc hc' hbe hrl
   go_wp2_with fail
   go_region_held3 (fun w'=>Below wr.heap.size wr w'/\∀b o,b<wr.heap.size→w'.cell? ⟨b,o,none⟩=wr.cell? ⟨b,o,none⟩)
    (first|with_reducible exact ⟨hD,(aO hD).1⟩|with_reducible exact ⟨hD.drew,(aO hD.drew).1⟩)
    ((go_at_call 59;(first|(with_reducible refine (HEQ.out _ hD).mono ?_)|(with_reducible refine (HEQ.out _ hD.drew).mono ?_));rintro e3 w3 ⟨rfl,b3⟩;have hD2:=aA (a:=wr) (by first|with_reducible exact hD|with_reducible exact hD.drew) b3;clear b3;replace hD:=hD2;clear hD2))
   have HB3:=Hd (aA HBE.out hD)
   clear hD a0 a1 a2 a3 a4 a5 a6 a7 a8 d0 d1 d2 d3 d4 d5 d6 d7 d8
   go_wp2_with fail
   go_roundw
   case rel=>exact ⟨k+1,by omega,by go_num,HB3.out⟩
   case measure=>simp [intOf];omega
  ·have hkn:k=m:=by omega
   subst hkn
   have hdk:decide ((k:Int)<(k:Int))=false:=by simp
   go_wp2_with fail
   go_ret
   exact ⟨rfl,HBE.out⟩
structure mX (w:World) (g:Nat) (e:TypeId) (n k:Nat) (vs:List Value):Prop where
 blk:∃cur,w.heap[g]?=some (.cells cur e (0,0))/\cur.size=n * 9/\cur.toList.take (k * 9)=vs
 len:vs.length=k * 9
theorem mX.tr {w w':World} {g:Nat} {e:TypeId} {n k:Nat} {vs:List Value} (h:mX w g e n k vs) (hb:Below w.heap.size w w'):mX w' g e n k vs:=by
 obtain ⟨⟨cur,h1,h2,h3⟩,h4⟩:=h
 exact ⟨⟨cur,aF hb h1,h2,h3⟩,h4⟩
theorem mX.cells {w:World} {g:Nat} {e:TypeId} {n k:Nat} {vs:List Value} (h:mX w g e n k vs) (hk:k<n):∃u0 u1 u2 u3 u4 u5 u6 u7 u8,w.cell? ⟨g,k * 9,none⟩=some u0/\w.cell? ⟨g,k * 9+1,none⟩=some u1/\w.cell? ⟨g,k * 9+2,none⟩=some u2/\w.cell? ⟨g,k * 9+3,none⟩=some u3/\w.cell? ⟨g,k * 9+4,none⟩=some u4/\w.cell? ⟨g,k * 9+5,none⟩=some u5/\w.cell? ⟨g,k * 9+6,none⟩=some u6/\w.cell? ⟨g,k * 9+7,none⟩=some u7/\w.cell? ⟨g,k * 9+8,none⟩=some u8/\∀j,w.frozen? ⟨g,j,none⟩=false:=by
 obtain ⟨⟨cur,h1,h2,h3⟩,h4⟩:=h
 have hc:∀j,j<n * 9→∃u,w.cell? ⟨g,j,none⟩=some u:=fun j hj=>by
  have hj2:j<cur.size:=by omega
  exact ⟨cur[j],by unfold World.cell?;rw [h1];simp [hj2]⟩
 obtain ⟨u0,q0⟩:=hc (k * 9) (by omega)
 obtain ⟨u1,q1⟩:=hc (k * 9+1) (by omega)
 obtain ⟨u2,q2⟩:=hc (k * 9+2) (by omega)
 obtain ⟨u3,q3⟩:=hc (k * 9+3) (by omega)
 obtain ⟨u4,q4⟩:=hc (k * 9+4) (by omega)
 obtain ⟨u5,q5⟩:=hc (k * 9+5) (by omega)
 obtain ⟨u6,q6⟩:=hc (k * 9+6) (by omega)
 obtain ⟨u7,q7⟩:=hc (k * 9+7) (by omega)
 obtain ⟨u8,q8⟩:=hc (k * 9+8) (by omega)
 exact ⟨u0,u1,u2,u3,u4,u5,u6,u7,u8,q0,q1,q2,q3,q4,q5,q6,q7,q8,fun j=>aJ h1 j⟩
theorem dY {l:List Value} {j:Nat} (h:j<l.length) (v:Value):(l.set j v).take (j+1)=l.take j++[v]:=by
 rw [List.take_add_one,List.getElem?_set_self h,List.take_set_of_le (Nat.le_refl _)]
 rfl
theorem En {l:List Value} {j:Nat} (h:j+9<=l.length) (v0 v1 v2 v3 v4 v5 v6 v7 v8:Value):(((((((((l.set j v0).set (j+1) v1).set (j+2) v2).set (j+3) v3).set (j+4) v4).set (j+5) v5).set (j+6) v6).set (j+7) v7).set (j+8) v8).take (j+9)=l.take j++[v0,v1,v2,v3,v4,v5,v6,v7,v8]:=by
 rw [show j+9=j+8+1 from rfl,dY (by simp;omega)]
 rw [show j+8=j+7+1 from rfl,dY (by simp;omega)]
 rw [show j+7=j+6+1 from rfl,dY (by simp;omega)]
 rw [show j+6=j+5+1 from rfl,dY (by simp;omega)]
 rw [show j+5=j+4+1 from rfl,dY (by simp;omega)]
 rw [show j+4=j+3+1 from rfl,dY (by simp;omega)]
 rw [show j+3=j+2+1 from rfl,dY (by simp;omega)]
 rw [show j+2=j+1+1 from rfl,dY (by simp;omega)]
 rw [dY (by omega)]
 simp
theorem mX.put {w:World} {g:Nat} {e:TypeId} {n k:Nat} {vs:List Value} (h:mX w g e n k vs) (hk:k<n) (v0 v1 v2 v3 v4 v5 v6 v7 v8:Value):mX (((((((((w.setCell ⟨g,k * 9,none⟩ v0).setCell ⟨g,k * 9+1,none⟩ v1).setCell ⟨g,k * 9+2,none⟩ v2).setCell ⟨g,k * 9+3,none⟩ v3).setCell ⟨g,k * 9+4,none⟩ v4).setCell ⟨g,k * 9+5,none⟩ v5).setCell ⟨g,k * 9+6,none⟩ v6).setCell ⟨g,k * 9+7,none⟩ v7).setCell ⟨g,k * 9+8,none⟩ v8) g e n (k+1) (vs++[v0,v1,v2,v3,v4,v5,v6,v7,v8]):=by
 obtain ⟨⟨cur,h1,h2,h3⟩,h4⟩:=h
 refine ⟨⟨_,(bF (bF (bF (bF (bF (bF (bF (bF (bF h1 _ v0) _ v1) _ v2) _ v3) _ v4) _ v5) _ v6) _ v7) _ v8),by simp [h2],?_⟩,by simp [h4];omega⟩
 simp only [Array.toList_setIfInBounds]
 rw [show (k+1) * 9=k * 9+9 by omega,En (by rw [Array.length_toList,h2];omega),h3]
theorem mX.new {w:World} {e:TypeId} {n:Nat} {cur:Array Value} (h:cur.size=n * 9):mX (w.alloc (.cells cur e)) w.heap.size e n 0 []:=⟨⟨cur,aL _ _,h,by simp⟩,rfl⟩
theorem mX.own {w:World} {g hi:Nat} {e:TypeId} {n:Nat} {vs:List Value} {cs:List Cel} (h:mX w g e n n vs) (hn:n<=maxLen) (ho:dP (g+1) hi w cs vs) (hh:g<hi):eB g hi w (.row e 9 cs) (.slice (some ⟨g,0,none⟩) n n):=by
 obtain ⟨⟨cur,h1,h2,h3⟩,h4⟩:=h
 obtain ⟨F,k1,k2,k3⟩:=ho
 refine ⟨g :: F,?_,?_,fun k hk=>?_⟩
 ·rw [dn]
  exact ⟨_,n,n,vs,F,rfl,⟨h4,.inr ⟨g,n,cur,rfl,Nat.zero_le _,h1,Nat.le_refl _,hn,h2,h3⟩⟩,rfl,k1⟩
 ·rw [List.nodup_cons]
  exact ⟨fun hm=>by have:=k3 g hm;omega,k2⟩
 ·rw [List.mem_cons] at hk
  rcases hk with rfl|hk
  ·omega
  ·have:=k3 k hk;omega
theorem IP {w:World} {g k:Nat} {v0 v1 v2 v3 v4 v5 v6 v7 v8:Value}:Chg g (g+1) w (((((((((w.setCell ⟨g,k,none⟩ v0).setCell ⟨g,k+1,none⟩ v1).setCell ⟨g,k+2,none⟩ v2).setCell ⟨g,k+3,none⟩ v3).setCell ⟨g,k+4,none⟩ v4).setCell ⟨g,k+5,none⟩ v5).setCell ⟨g,k+6,none⟩ v6).setCell ⟨g,k+7,none⟩ v7).setCell ⟨g,k+8,none⟩ v8):=by
 repeat (first|with_reducible exact Chg.refl _ _ _|with_reducible refine Chg.set ?_ (Nat.le_refl _) (Nat.lt_succ_self _) _)
theorem dP.chgA {lo hi lo' hi':Nat} {w w':World} {cs:List Cel} {vs:List Value} (h:dP lo hi w cs vs) (hg:Chg lo' hi' w w') (ha:hi<=lo'∨hi'<=lo):dP lo hi w' cs vs:=h.keep fun k h1 h2 hk=>hg.block k hk (by omega)
theorem DF {xs:List Ac} {k:Nat} {x:Ac} (h:xs[k]?=some x):(xs.take (k+1)).flatMap Ac.cells=(xs.take k).flatMap Ac.cells++x.cells:=by
 rw [List.take_add_one,h]
 simp
theorem dP.appA {lo mid mid' hi:Nat} {w:World} {cs ds:List Cel} {vs us:List Value} (h:dP lo mid w cs vs) (k:dP mid' hi w ds us) (h1:mid<=mid') (h2:lo<=mid') (h3:mid<=hi):dP lo hi w (cs++ds) (vs++us):=by
 obtain ⟨F,a1,a2,a3⟩:=h
 obtain ⟨G,b1,b2,b3⟩:=k
 refine ⟨F++G,a1.append b1,?_,fun k hk=>?_⟩
 ·rw [List.nodup_append]
  exact ⟨a2,b2,fun x hx y hy=>by have:=a3 x hx;have:=b3 y hy;omega⟩
 ·rw [List.mem_append] at hk
  rcases hk with hk|hk
  ·have:=a3 k hk;omega
  ·have:=b3 k hk;omega
theorem oL (A:Option Addr) (n c:Nat) (xs:List Ac) (w:World) (h:iM w A n xs) (hz:szA xs<=1048576) :
  Calls Tryz.prog 18 #[.slice A n c] w fun e w'=>∃A',e = .returned (.slice A' n n)/\eB w.heap.size w'.heap.size w' (G7 xs) (.slice A' n n)/\Below w.heap.size w w':=by
 obtain ⟨i0,hi,hz0,hz1,hz2⟩:=info_parts FU
 have hxl:=h.1
 have hn:n<=1048576:=by have:=(uH hz 0).1;omega
 have hmk:=fun W=>bU (P:=Tryz.prog) 32 74 i0 _ Tryz.underlying32 hi hz0 .i64 .i64 n n (Nat.le_refl _) (by rw [hz2];omega) (by omega) W
 have hsz0:∀z:Array Value,(madeCells z (n * i0.size)).size=n * 9:=fun z=>by rw [size_madeCells,hz1]
 generalize hcz:madeCells _ (n * i0.size)=cz at hmk
 have hczs:cz.size=n * 9:=by rw [←hcz];exact hsz0 _
 clear hi hz0 hz1 hz2 hsz0 hcz
 have HX:=Hd hxl
 have HR:=Hd h
 have HZ:=Hd (fun k=>uH hz k)
 clear h hz hxl
 go_enter Tryz.func18,Tryz.ntmps18
 go_wp2_with fail
 go_loopw [4] (fun i wr=>∃(k:Nat) (vs:List Value),k<=n/\i = .int .i64 k/\mX wr w.heap.size 74 n k vs/\dP (w.heap.size+1) wr.heap.size wr ((xs.take k).flatMap Ac.cells) vs/\Below w.heap.size w wr/\w.heap.size<wr.heap.size) (fun i _=>n - (intOf i).toNat)
 case atStart=>exact ⟨0,[],Nat.zero_le _,rfl,mX.new hczs,by simpa using dP.nil,aB (Below.refl _ _) _,by simp⟩
 case round =>
  obtain ⟨k,vs,hk,rfl,hfl,how,hbe,hsr⟩:=hrel
  have HFL:=Hd hfl
  have HOW:=Hd how
  have HBE:=Hd hbe
  clear hfl how hbe hmk
  by_cases hlt:k<n
  ·have hdk:decide ((k:Int)<(n:Int))=true:=by simp;omega
   obtain ⟨b,o,rfl,hb,hc⟩:=(HR.out.below HBE.out).2 (by omega)
   obtain ⟨WA,wn,wc,a0,a1,a2,a3,a4,a5,a6,a7,a8,hwi⟩:=hc k hlt
   have hm:wn<=16777216:=by have h1:=hwi.1;have h2:=(HZ.out k).2;omega
   have i0:(0:Int)<=(k:Int):=by omega
   have i1:(k:Int)<(n:Int):=by omega
   have HI:=Hd hwi
   have HSN:=Hd (DF (getD_some Ac.zero (by rw [HX.out];exact hlt):xs[k]?=some (xs[k]?.getD Ac.zero)))
   clear hwi hc
   generalize xs[k]?.getD Ac.zero=x at *
   go_wp2_with fail
   refine (Ej x WA wn wc _ HI.out hm).mono ?_
   rintro e w2 ⟨B2,rfl,o2,b2⟩
   have hs2:=b2.size
   have HFL2:=Hd (HFL.out.tr b2)
   have HOW2:=Hd (HOW.out.below b2)
   have HBE2:=Hd (aA HBE.out b2)
   have O2:=Hd (EY o2)
   clear o2 b2 a0 a1 a2 a3 a4 a5 a6 a7 a8
   obtain ⟨u0,u1,u2,u3,u4,u5,u6,u7,u8,f0,f1,f2,f3,f4,f5,f6,f7,f8,fz⟩:=HFL2.out.cells hlt
   go_wp2_with fail
   clear f0 f1 f2 f3 f4 f5 f6 f7 f8 fz
   have HP:=Hd (HFL2.out.put hlt (.int .i64 x.kind) (.int .i64 x.A) (.int .i64 x.B) (.int .i64 x.C) (.int .i64 x.reg.X0) (.int .i64 x.reg.Y0) (.int .i64 x.reg.X1) (.int .i64 x.reg.Y1) (.slice B2 wn wn))
   have hC:=IP (w:=w2) (g:=w.heap.size) (k:=k * 9) (v0 := .int .i64 x.kind) (v1 := .int .i64 x.A) (v2 := .int .i64 x.B) (v3 := .int .i64 x.C) (v4 := .int .i64 x.reg.X0) (v5 := .int .i64 x.reg.Y0) (v6 := .int .i64 x.reg.X1) (v7 := .int .i64 x.reg.Y1) (v8 := .slice B2 wn wn)
   have hsC:=hC.size
   have HO3:=Hd (HOW2.out.chgA hC (.inr (Nat.le_refl _)))
   have HO4:=Hd (O2.out.chgA hC (.inr (by omega)))
   have HB3:=Hd (dR HBE2.out hC (Nat.le_refl _))
   generalize hWE:World.setCell _ _ _=WE at *
   clear hWE hC
   go_roundw
   case rel =>
    refine ⟨k+1,_,by omega,by go_num,HP.out,?_,HB3.out,by omega⟩
    rw [HSN.out]
    exact (HO3.out.appA HO4.out (Nat.le_refl _) (by omega) hs2).widen (Nat.le_refl _) hsC
   case measure=>simp [intOf];omega
  ·have hkn:k=n:=by omega
   subst hkn
   have hdk:decide ((k:Int)<(k:Int))=false:=by simp
   go_wp2_with fail
   go_ret
   refine ⟨_,rfl,?_,HBE.out⟩
   have h:=HOW.out
   rw [List.take_of_length_le (by rw [HX.out];exact Nat.le_refl _)] at h
   exact HFL.out.own (by unfold maxLen;omega) h hsr
def lw (cs:List Cel) (n:Nat):Prop:=cs.length=n * 9/\∀k,k<n→(∀i,i<8→∃x,cs[k * 9+i]?=some (.int x))/\∃ys:List Int,cs[k * 9+8]?=some (ig ys)/\ys.length<=1048576
theorem F5 {xs:List Ac} (h:∀i:Nat,(xs[i]?.getD Ac.zero).words.length<=1048576):lw (xs.flatMap Ac.cells) xs.length:=by
 refine ⟨by rw [qH (f:=Ac.cells) Ac.cells_length,Nat.mul_comm],fun k hk=>?_⟩
 have hx:=getD_some Ac.zero hk
 have hw:=h k
 generalize xs[k]?.getD Ac.zero=x at *
 refine ⟨fun i hi=>?_,x.words,by rw [vX hx (by omega)];rfl,hw⟩
 rw [vX hx (by omega)]
 rcases (by omega:i=0∨i=1∨i=2∨i=3∨i=4∨i=5∨i=6∨i=7) with rfl|rfl|rfl|rfl|rfl|rfl|rfl|rfl <;> exact ⟨_,rfl⟩
theorem lw.num {cs:List Cel} {n:Nat} (h:lw cs n) {k i:Nat} (_hk:k<n) (hi:i<8) (y:Int):lw (cs.set (k * 9+i) (.int y)) n:=by
 refine ⟨by rw [List.length_set];exact h.1,fun k' hk'=>⟨fun i' hi'=>?_,?_⟩⟩
 ·rw [List.getElem?_set]
  split
  ·rename_i he
   rw [if_pos (by rw [h.1];omega)]
   exact ⟨y,rfl⟩
  ·exact (h.2 k' hk').1 i' hi'
 ·rw [List.getElem?_set,if_neg (by omega)]
  exact (h.2 k' hk').2
theorem lw.row {cs:List Cel} {n:Nat} (h:lw cs n) {k:Nat} {ys:List Int} (hy:ys.length<=1048576):lw (cs.set (k * 9+8) (ig ys)) n:=by
 refine ⟨by rw [List.length_set];exact h.1,fun k' hk'=>⟨fun i' hi'=>?_,?_⟩⟩
 ·rw [List.getElem?_set,if_neg (by omega)]
  exact (h.2 k' hk').1 i' hi'
 ·rw [List.getElem?_set]
  split
  ·rename_i he
   rw [if_pos (by rw [h.1];omega)]
   exact ⟨ys,rfl,hy⟩
  ·exact (h.2 k' hk').2
theorem dG.numA {W:World} {b n c:Nat} {F:List Nat} {cs:List Cel} (h:dG W (.row 74 9 cs) (.slice (some ⟨b,0,none⟩) n c) F) (hF:F.Nodup) (hs:lw cs n) {k i:Nat} (hk:k<n) (hi:i<8):(∃x,W.cell? ⟨b,k * 9+i,none⟩=some (.int .i64 x))/\W.frozen? ⟨b,k * 9+i,none⟩=false/\b∈F /\
  ∀y:Int,∃cs',dG (W.setCell ⟨b,k * 9+i,none⟩ (.int .i64 y)) (.row 74 9 cs') (.slice (some ⟨b,0,none⟩) n c) F/\lw cs' n:=by
 obtain ⟨x,hx⟩:=(hs.2 k hk).1 i hi
 obtain ⟨g,hA,hg,hc,hf,hup⟩:=h.num hF hx
 injection hA with hA
 injection hA with hA _ _
 subst hA
 exact ⟨⟨x,hc⟩,hf,hg,fun y=>⟨_,hup y,hs.num hk hi y⟩⟩
theorem dG.rowA {W:World} {b n c:Nat} {F:List Nat} {cs:List Cel} (h:dG W (.row 74 9 cs) (.slice (some ⟨b,0,none⟩) n c) F) (hF:F.Nodup) (hs:lw cs n) {k:Nat} (hk:k<n):∃S m p ys,W.cell? ⟨b,k * 9+8,none⟩=some (.slice S m p)/\Own 0 W S m p ys/\ys.length<=1048576/\(∀q∈blk S,q∈F) /\
  ∀w' zs,Own 0 w' S m p zs→zs.length<=1048576→mD (blk S) W w'→∃cs',dG w' (.row 74 9 cs') (.slice (some ⟨b,0,none⟩) n c) F/\lw cs' n:=by
 obtain ⟨ys,hys,hyl⟩:=(hs.2 k hk).2
 obtain ⟨g,v,Fj,hA,hgF,hcell,hoc,hnd,hgn,hsub,hup⟩:=h.child hF hys
 injection hA with hA
 injection hA with hA _ _
 subst hA
 have hoc2:=hoc
 unfold ig at hoc2
 rw [dn] at hoc2
 obtain ⟨S,m,p,_,_,rfl,_⟩:=hoc2
 obtain ⟨ho,rfl⟩:=fQ.1 hoc
 exact ⟨S,m,p,ys,hcell,ho,hyl,hsub,fun w' zs hz hzl hon=>⟨_,hup w' (ig zs) (fQ.2 ⟨hz,rfl⟩) hon,hs.row (k:=k) hzl⟩⟩
theorem dG.num8 {w:World} {b n c:Nat} {F:List Nat} {cs:List Cel} (h:dG w (.row 74 9 cs) (.slice (some ⟨b,0,none⟩) n c) F) (hF:F.Nodup) (hs:lw cs n) {k:Nat} (hk:k<n) :
  ∃S m p,w.cell? ⟨b,k * 9+8,none⟩=some (.slice S m p)/\∀(W8:World) (y0 y1 y2 y3 y4 y5 y6 y7:Int),((((((((w.setCell ⟨b,k * 9,none⟩ (.int .i64 y0)).setCell ⟨b,k * 9+1,none⟩ (.int .i64 y1)).setCell ⟨b,k * 9+2,none⟩ (.int .i64 y2)).setCell ⟨b,k * 9+3,none⟩ (.int .i64 y3)).setCell ⟨b,k * 9+4,none⟩ (.int .i64 y4)).setCell ⟨b,k * 9+5,none⟩ (.int .i64 y5)).setCell ⟨b,k * 9+6,none⟩ (.int .i64 y6)).setCell ⟨b,k * 9+7,none⟩ (.int .i64 y7))=W8→∃ys,Own 0 W8 S m p ys/\ys.length<=1048576/\mD F w W8 /\
   ∀w' zs,Own 0 w' S m p zs→zs.length<=1048576→mD (blk S) W8 w'→∃cs',dG w' (.row 74 9 cs') (.slice (some ⟨b,0,none⟩) n c) F/\lw cs' n/\mD F w w':=by
 obtain ⟨S,m,p,_,hcell,_⟩:=h.rowA hF hs hk
 refine ⟨S,m,p,hcell,fun W8 y0 y1 y2 y3 y4 y5 y6 y7 hW=>?_⟩
 obtain ⟨c1,o1,s1⟩:=(h.numA hF hs hk (i:=0) (by omega)).2.2.2 y0
 obtain ⟨c2,o2,s2⟩:=(o1.numA hF s1 hk (i:=1) (by omega)).2.2.2 y1
 obtain ⟨c3,o3,s3⟩:=(o2.numA hF s2 hk (i:=2) (by omega)).2.2.2 y2
 obtain ⟨c4,o4,s4⟩:=(o3.numA hF s3 hk (i:=3) (by omega)).2.2.2 y3
 obtain ⟨c5,o5,s5⟩:=(o4.numA hF s4 hk (i:=4) (by omega)).2.2.2 y4
 obtain ⟨c6,o6,s6⟩:=(o5.numA hF s5 hk (i:=5) (by omega)).2.2.2 y5
 obtain ⟨c7,o7,s7⟩:=(o6.numA hF s6 hk (i:=6) (by omega)).2.2.2 y6
 obtain ⟨c8,o8,s8⟩:=(o7.numA hF s7 hk (i:=7) (by omega)).2.2.2 y7
 obtain ⟨S',m',p',ys,hcell',ho,hyl,hsub,hup⟩:=o8.rowA hF s8 hk
 have cn:∀(W:World) (i:Nat) (v:Value),i<8→(W.setCell ⟨b,k * 9+i,Option.none⟩ v).cell? ⟨b,k * 9+8,Option.none⟩=W.cell? ⟨b,k * 9+8,Option.none⟩:=fun W i v hi=>World.cell?_setCell_other _ _ _ _ (by intro he;injection he with _ he _;omega)
 have he:((((((((w.setCell ⟨b,k * 9,none⟩ (.int .i64 y0)).setCell ⟨b,k * 9+1,none⟩ (.int .i64 y1)).setCell ⟨b,k * 9+2,none⟩ (.int .i64 y2)).setCell ⟨b,k * 9+3,none⟩ (.int .i64 y3)).setCell ⟨b,k * 9+4,none⟩ (.int .i64 y4)).setCell ⟨b,k * 9+5,none⟩ (.int .i64 y5)).setCell ⟨b,k * 9+6,none⟩ (.int .i64 y6)).setCell ⟨b,k * 9+7,none⟩ (.int .i64 y7)).cell? ⟨b,k * 9+8,none⟩=w.cell? ⟨b,k * 9+8,none⟩:=(cn _ 7 _ (by omega)).trans ((cn _ 6 _ (by omega)).trans ((cn _ 5 _ (by omega)).trans ((cn _ 4 _ (by omega)).trans ((cn _ 3 _ (by omega)).trans ((cn _ 2 _ (by omega)).trans ((cn _ 1 _ (by omega)).trans ((cn _ 0 _ (by omega)).trans (rfl))))))))
 replace hcell':=he.symm.trans hcell'
 rw [hcell] at hcell'
 injection hcell' with hcell'
 injection hcell' with e1 e2 e3
 subst e1 e2 e3
 have hb:=(h.numA hF hs hk (i:=0) (by omega)).2.2.1
 have hon:mD F w ((((((((w.setCell ⟨b,k * 9,none⟩ (.int .i64 y0)).setCell ⟨b,k * 9+1,none⟩ (.int .i64 y1)).setCell ⟨b,k * 9+2,none⟩ (.int .i64 y2)).setCell ⟨b,k * 9+3,none⟩ (.int .i64 y3)).setCell ⟨b,k * 9+4,none⟩ (.int .i64 y4)).setCell ⟨b,k * 9+5,none⟩ (.int .i64 y5)).setCell ⟨b,k * 9+6,none⟩ (.int .i64 y6)).setCell ⟨b,k * 9+7,none⟩ (.int .i64 y7)):=by
  exact ((((((((mD.refl _ _).trans (jk hb _)).trans (jk hb _)).trans (jk hb _)).trans (jk hb _)).trans (jk hb _)).trans (jk hb _)).trans (jk hb _)).trans (jk hb _)
 subst hW
 exact ⟨ys,ho,hyl,hon,fun w' zs hz hzl ho'=>by
  obtain ⟨cs',q1,q2⟩:=hup w' zs hz hzl ho'
  exact ⟨cs',q1,q2,hon.trans (ho'.more hsub)⟩⟩
theorem zD (lo hi:Nat) (A:Option Addr) (n c:Nat) (xs:List Ac) (k0:Int) (w:World) (h:eB lo hi w (G7 xs) (.slice A n c)) (hk0:0<=k0) (hk1:k0<=1099511627776) (hz:szA xs<=1048576) :
  Calls Tryz.prog 23 #[.slice A n c,.int .i64 k0] w fun e w'=>∃k1:Int,e = .returned (.int .i64 k1)/\0<=k1/\Chg lo hi w w':=by
 have hxn:xs.length=n:=(lK h).1
 have hnb:n<=1048576:=by have:=(uH hz 0).1;omega
 obtain ⟨F,hO,hF,hFr⟩:=h
 have hsh:lw (xs.flatMap Ac.cells) n:=by rw [←hxn];exact F5 fun i=>(uH hz i).2
 have HO:=Hd hO
 have HFN:=Hd hF
 have HFR:=Hd hFr
 have HSH:=Hd hsh
 clear hO hF hFr hsh hxn
 go_enter Tryz.func23,Tryz.ntmps23
 go_wp2_with fail
 go_loopw [1,5] (fun v i wr=>∃(k:Nat) (q:Int) (cs:List Cel),k<=n/\i = .int .i64 k/\v = .int .i64 q/\0<=q/\q<=k0+k * 1048584/\dG wr (.row 74 9 cs) (.slice A n c) F/\lw cs n/\mD F w wr) (fun _ i _=>n - (intOf i).toNat)
 case atStart=>exact ⟨0,k0,_,Nat.zero_le _,rfl,rfl,hk0,by omega,HO.out,HSH.out,mD.refl _ _⟩
 case round =>
  obtain ⟨k,q,cs,hk,rfl,rfl,hq0,hq1,ho,hs,hg⟩:=hrel
  have HG:=Hd hg
  clear hg
  by_cases hlt:k<n
  ·have hdk:decide ((k:Int)<(n:Int))=true:=by simp;omega
   have hA:∃b,A=some ⟨b,0,none⟩:=by
    obtain ⟨x,hx⟩:=(hs.2 k hlt).1 0 (by omega)
    obtain ⟨g,hA,_⟩:=ho.num HFN.out hx
    exact ⟨g,hA⟩
   obtain ⟨b,rfl⟩:=hA
   obtain ⟨S,m,p,c8,hup⟩:=ho.num8 HFN.out hs hlt
   have HUP:=Hd hup
   obtain ⟨⟨x0,c0⟩,f0,-⟩:=ho.numA HFN.out hs hlt (i:=0) (by omega)
   obtain ⟨⟨x1,c1⟩,f1,-⟩:=ho.numA HFN.out hs hlt (i:=1) (by omega)
   obtain ⟨⟨x2,c2⟩,f2,-⟩:=ho.numA HFN.out hs hlt (i:=2) (by omega)
   obtain ⟨⟨x3,c3⟩,f3,-⟩:=ho.numA HFN.out hs hlt (i:=3) (by omega)
   obtain ⟨⟨x4,c4⟩,f4,-⟩:=ho.numA HFN.out hs hlt (i:=4) (by omega)
   obtain ⟨⟨x5,c5⟩,f5,-⟩:=ho.numA HFN.out hs hlt (i:=5) (by omega)
   obtain ⟨⟨x6,c6⟩,f6,-⟩:=ho.numA HFN.out hs hlt (i:=6) (by omega)
   obtain ⟨⟨x7,c7⟩,f7,-⟩:=ho.numA HFN.out hs hlt (i:=7) (by omega)
   rw [Nat.add_zero] at c0 f0
   have i0:(0:Int)<=(k:Int):=by omega
   have i1:(k:Int)<(n:Int):=by omega
   have hkq:q<=k0+1099520671744:=by omega
   have HQ1:=Hd hq1
   clear ho hs hup hq1
   go_wp2_with fail
   generalize hW8:World.setCell _ _ _=W8
   obtain ⟨ys,o8,hyl,hon,hfin⟩:=HUP.out _ _ _ _ _ _ _ _ _ hW8
   have hm:m<=1048576:=by rw [←o8.len];exact hyl
   have HFIN:=Hd hfin
   clear hW8 hfin hon c0 f0 c1 f1 c2 f2 c3 f3 c4 f4 c5 f5 c6 f6 c7 f7 c8
   refine (il 0 S m p ys _ _ o8 (by omega) (by omega) (by omega)).mono ?_
   rintro e' w2 ⟨rfl,o2,g2⟩
   obtain ⟨cs',q1,q2,q3⟩:=HFIN.out w2 _ o2 (by rw [o2.len];exact hm) (DN g2)
   have Q1:=Hd q1
   have Q2:=Hd q2
   have Q3:=Hd (HG.out.trans q3)
   clear o2 g2 q1 q2 q3 o8
   go_wp2_with fail
   go_roundw
   case rel=>exact ⟨k+1,_,cs',by omega,by go_num,rfl,by omega,by have:=HQ1.out;omega,Q1.out,Q2.out,Q3.out⟩
   case measure=>simp [intOf];omega
  ·have hkn:k=n:=by omega
   subst hkn
   have hdk:decide ((k:Int)<(k:Int))=false:=by simp
   go_wp2_with fail
   go_ret
   exact ⟨q,rfl,hq0,HG.out.chg HFR.out⟩
end Go.Proofs.YtignkfhdkcgkgaaGreat
