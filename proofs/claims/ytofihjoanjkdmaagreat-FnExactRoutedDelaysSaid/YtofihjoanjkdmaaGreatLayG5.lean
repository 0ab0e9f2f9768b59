/- Maps with numbers as keys. -/
import Derived.Maps.OwnOps
import Derived.Maps.OwnSet
import Derived.Test.YtofihjoanjkdmaaGreatLayG4
import Derived.Test.YtofihjoanjkdmaaGreatRtS
namespace Go.Proofs.YtofihjoanjkdmaaGreat
set_option maxHeartbeats 8000000
set_option maxRecDepth 100000
open Go.RowKit
def j4 (x:Int):Prop:=-9223372036854775808<=x/\x<=9223372036854775807
theorem Ey {x:Int} (h:j4 x):(Lit.int .i64 x).wf=true:=by
 unfold j4 at h
 unfold Lit.wf
 rw [Bool.and_eq_true]
 exact ⟨decide_eq_true h.1,decide_eq_true h.2⟩
theorem EK:Maps.Keyed Tryz.prog 3:=Maps.int_keyed Tryz.underlying3
theorem FZ (w:World):(zeroValue 3).run Tryz.prog w = .ok (.int .i64 0) w:=by kernel_rfl
theorem FE {x:Int} (h:j4 x):keyOf Tryz.prog 3 (.int .i64 x)=some (.int .i64 x):=Maps.keyOf_int_mk Tryz.underlying3 (Ey h)
theorem rV {v:Value} {x:Bool} {p:List MemPlace} (h:plainElem (H:=Unit) Tryz.prog 4 v=some (.lit (.bool x),p)):v = .bool x:=by
 unfold plainElem at h
 rw [Tryz.underlying4] at h
 cases v <;> simp at h
 rename_i y
 rw [h.1]
def oJ (w:World) (b:Nat) (l:List Int):Prop :=
 ∃D:DataW Unit,w.ownsMap Tryz.prog 3 (plainElem Tryz.prog 4) b l.length D/\∀x:Int,D.atKey (.int .i64 x) (.lit (.bool false)) = .lit (.bool (decide (x∈l)))
theorem oJ.made (w:World):oJ (w.alloc (.map #[] 0)) w.heap.size []:=⟨.map [],World.ownsMap_made w _ _ _,fun x=>by simp;rfl⟩
theorem oJ.lt {w:World} {b:Nat} {l:List Int} (h:oJ w b l):b<w.heap.size:=by
 obtain ⟨D,h1,_⟩:=h
 exact h1.lt
theorem oJ.keep {w w':World} {b:Nat} {l:List Int} (h:oJ w b l) (hk:w'.heap[b]?=w.heap[b]?):oJ w' b l:=by
 obtain ⟨D,⟨es,j,g,hr⟩,h2⟩:=h
 exact ⟨D,⟨es,j,hk.trans g,hr⟩,h2⟩
theorem oJ.below {w w':World} {b:Nat} {l:List Int} (h:oJ w b l) (g:Below w.heap.size w w'):oJ w' b l:=h.keep (g.block b h.lt)
theorem Fa (w:World):(zeroValue 4).run Tryz.prog w = .ok (.bool false) w:=by kernel_rfl
theorem oJ.look {w:World} {b:Nat} {l:List Int} (h:oJ w b l) {key:Int} (hk:j4 key):(Instr.lookup 171 (.map (some b)) (.int .i64 key) false).run Tryz.prog w = .ok (.bool (decide (key∈l))) w:=by
 obtain ⟨D,h1,h2⟩:=h
 obtain ⟨v,j,hr,g⟩:=h1.lookup EK Tryz.underlying171 (Fa w) (plainElem_bool Tryz.underlying4 false) (FE hk)
 rw [h2 key] at g
 rw [hr,rV g]
abbrev sW (b:Nat) (l:List Int):Pc := .own b fun w=>oJ w b l
theorem aJ.setPut {W w:World} {j:List Pc} (S:aJ W w j) (i:Nat) {b:Nat} {l:List Int} (hi:j[i]?=some (sW b l)) (hn:l.length<100000) (key:Int) (hk:j4 key) :
  ∃w',(Instr.mapUpdate 171 (.map (some b)) (.int .i64 key) (.bool true)).run Tryz.prog w = .ok () w'/\aJ W w' (j.set i (sW b (l++[key])))/\w.heap.size<=w'.heap.size:=by
 obtain ⟨⟨D,h1,h2⟩,_,_⟩:=S.own i hi
 obtain ⟨w',z,u,q⟩:=h1.store EK Tryz.underlying171 (by unfold maxLen;omega) (FE hk) (plainElem_bool Tryz.underlying4 true)
 refine ⟨w',z,S.own_upd i hi q.grown ⟨_,by rw [List.length_append];exact u,fun x=>?_⟩ (fun G H e h=>h.keep e),q.grown.size⟩
 have B:=World.ownsMap.isMap h1
 by_cases e:x=key
 ·subst e
  rw [Maps.atKey_put_same B (by trivial)]
  simp
 have g:(Lit.int .i64 x) ≠ .int .i64 key:=fun h=>e (by injection h)
 rw [Maps.atKey_put_other g,h2 x]
 simp [e]
theorem aJ.pushSet {W w:World} {g:List Pc} (h:aJ W w g):aJ W (w.alloc (.map #[] 0)) (g++[sW w.heap.size []]) :=
 h.push (aD (Below.refl _ _) _) (G:=[w.heap.size]) ⟨rfl,by simp,oJ.made w,fun _ _ e h=>h.keep e⟩ (by simp) (by simp)
theorem aJ.look {W w:World} {g:List Pc} (S:aJ W w g) (i:Nat) {b:Nat} {l:List Int} (hi:g[i]?=some (sW b l)) {key:Int} (hk:j4 key):(Instr.lookup 171 (.map (some b)) (.int .i64 key) false).run Tryz.prog w = .ok (.bool (decide (key∈l))) w:=(S.own i hi).1.look hk
theorem qz {ops:Array Oper} {rest:List Oper} {o:Oper} {a:Act} {Q:Exit→Act→World→Prop} {w W:World} (hg:o.guard=none) (z x v:Operand) (u:o.op=Op.mapUpdate 171 z x v)
  (j:List Pc) (S:aJ W w j) (i b:Nat) (l:List Int) (hi:j[i]?=some (sW b l)) (I:a.eval z = .map (some b)) (hn:l.length<100000) (key:Int) (B:a.eval x = .int .i64 key) (G:a.eval v = .bool true)
  (hk:j4 key) (h:∀w',aJ W w' (j.set i (sW b (l++[key])))→w.heap.size<=w'.heap.size→wpList Tryz.prog ops Q rest (a.put o.dst undef) w'):wpList Tryz.prog ops Q (o :: rest) a w:=by
 refine wpList_plain hg fun J q=>?_
 obtain ⟨w',g,H,D⟩:=S.setPut i hi hn key hk
 unfold Oper.wp
 simp [execOp,u,I,B,G,g,Result.andThen]
 exact q _ _ (h w' H D)
theorem jH (d:Dev) (n:Int) (w:World) :
  Calls Tryz.prog 221 #[.agg (dv d),.int .i64 n] w fun e w'=>e = .returned (.bool (bI d n && (decide (n % aQ d=5) || decide (n % aQ d=6))))/\Below w.heap.size w w':=by
 go_enter Tryz.func221,Tryz.ntmps221
 go_wp2_with fail
 cases g:bI d n with
 | false =>
  have j:=Hd g
  refine (fV d n _).mono ?_
  rw [g]
  rintro e V ⟨rfl,u⟩
  have z:=Hd (aA (aD (Below.refl _ _) _) u)
  clear u g
  go_wp2_with fail
  go_ret
  exact ⟨cK (by rw [j.out];rfl),z.out⟩
 | true =>
  have G:fD d n=true:=by unfold bI at g;rw [Bool.and_eq_true] at g;exact g.1
  obtain ⟨J,j⟩:=hd2 G g
  refine (fV d n _).mono ?_
  rw [g]
  rintro e V ⟨rfl,u⟩
  have z:=Hd u
  have Q:=u.size
  simp only [World.size_alloc] at Q
  obtain ⟨hcc,I⟩:=bG u
  clear u g G
  go_wp2_with fail
  refine (jO d n _ J.out).mono ?_
  rintro e Y ⟨rfl,U⟩
  have B:=Hd (aA (aD (Below.refl _ _) _) (aA z.out U))
  clear U hcc I
  generalize hk:n % aQ d=k at *
  have H:=Hd hk
  clear hk
  by_cases h5:k=5
  ·have q:(k==5)=true:=by simpa using h5
   have K:=Hd h5
   clear h5
   go_wp2_with fail
   go_ret
   exact ⟨cK (by rw [j.out,H.out,K.out];rfl),B.out⟩
  have q:(k==5)=false:=by simpa using h5
  by_cases D:k=6
  ·have W:(k==6)=true:=by simpa using D
   have R:=Hd D
   clear h5 D
   go_wp2_with fail
   go_ret
   exact ⟨cK (by rw [j.out,H.out,R.out];rfl),B.out⟩
  have W:(k==6)=false:=by simpa using D
  obtain ⟨K,R⟩:=hd2 h5 D
  clear h5 D
  go_wp2_with fail
  go_ret
  exact ⟨cK (by rw [j.out,H.out];simp [K.out,R.out]),B.out⟩
theorem pO (d:Dev) (n:Int):(jT d n).length<=26:=by
 unfold jT
 split
 ·rename_i h
  have g:=h.1
  unfold bI at g
  rw [Bool.and_eq_true] at g
  have z:=ay (jG g.1).1
  have h1:=jQ (jl d (n / aQ d) (n % aQ d))
  have q:∀(r:Int) (k:Nat),(iM d (n / aQ d) (n % aQ d) r (k:Int) (bR (k:Int)).toNat).length<=1+k % 2:=by
   intro r k
   have D:(bR (k:Int)).toNat=1+k % 2:=by unfold bR;omega
   have u:∀s:Int,(lv d (n / aQ d) (n % aQ d) r (k:Int) s).length<=1:=by
    intro s;unfold lv mE;split <;> (try split) <;> simp
   have:∀s:Nat,(iM d (n / aQ d) (n % aQ d) r (k:Int) s).length<=s:=by
    intro s
    induction s with
    | zero=>simp [iM]
    | succ s ih=>rw [nV,List.length_append];have:=u ((s:Int)+1);omega
   have:=this (bR (k:Int)).toNat
   omega
  have j:∀(r:Int) (k:Nat),(jC d (n / aQ d) (n % aQ d) r k).length<=k+k / 2:=by
   intro r k
   induction k with
   | zero=>simp [jC]
   | succ k ih=>rw [nW,List.length_append];have:=q r k;omega
  have hA:∀r:Nat,(iH d (n / aQ d) (n % aQ d) r).length<=6 * r:=by
   intro r
   induction r with
   | zero=>simp [iH]
   | succ r ih=>rw [nX,List.length_append];have:=j (r:Int) d.T.toNat;omega
  have:=hA 4
  have ho:(jB d (n / aQ d)).length<=2:=by unfold jB;split <;> simp
  have B:(jl d (n / aQ d) (n % aQ d)).length<=26:=by
   unfold jl
   rw [List.length_append]
   split
   ·omega
   simp;omega
  omega
 simp
/-! ### a tile's node -/
theorem gK (d:Dev) (w:World) :
  Calls Tryz.prog 220 #[.agg (dv d)] w fun e w'=>e = .returned (.int .i64 (ig d))/\Below w.heap.size w w':=by
 have z:=Hd (aD (Below.refl w.heap.size w) (.cells (dv d) 36))
 have j:=aI w (.cells (dv d) 36)
 have Q:=Hd j
 obtain ⟨D,H,I,G,J⟩:=bX j
 clear j
 cases u:dZ d with
 | false =>
  have K:Hid (ig d=0):=by show _=_;unfold ig;rw [u];rfl
  have B:=Hd u
  clear u
  go_enter Tryz.func220,Tryz.ntmps220
  go_upto_region 1 with fail
  generalize w.alloc (.cells (dv d) 36)=V at *
  go_wp2_with fail
  refine (gy d _).mono ?_
  rw [B.out]
  rintro _ W ⟨rfl,q⟩
  have g:=Hd (aA z.out q)
  clear q D H I G J
  go_wp2_with fail
  go_ret
  exact ⟨aL K.out.symm,g.out⟩
 | true =>
  have K:Hid (ig d=iJ d):=by show _=_;unfold ig;rw [if_pos u]
  have B:=Hd u
  clear u
  go_enter Tryz.func220,Tryz.ntmps220
  go_upto_region 1 with fail
  generalize w.alloc (.cells (dv d) 36)=V at *
  go_wp2_with fail
  refine (gy d _).mono ?_
  rw [B.out]
  rintro _ W ⟨rfl,q⟩
  have g:=Hd (aA z.out q)
  have j:=aC q Q.out
  clear q D H I G J
  obtain ⟨D,H,I,G,J⟩:=bX j
  clear j
  go_wp2_with fail
  refine (nU d _ B.out).mono ?_
  rintro _ Y ⟨rfl,U⟩
  have R:=Hd (aA g.out U)
  clear U D H I G J
  go_wp2_with fail
  go_ret
  exact ⟨aL K.out.symm,R.out⟩
theorem dB.bd {d:Dev} {src:Int} {g:List Int} {r:Rou} (h:dB d src g r):r.nodes.length<=828:=by
 have h1:=h.len.2
 have h2:=iG h.dev
 omega
theorem EL {d:Dev} {n:Int} (h:bI d n=true):j4 n:=by
 unfold bI at h
 rw [Bool.and_eq_true] at h
 have:=jG h.1
 unfold j4
 omega
theorem zm (d:Dev) (src:Int) (Q:List Int) (r:Rou) (KA NA FA:Option Addr) (kn kc I nc fn fc:Nat) (w:World) (hk:dE w KA kn Q) (hn:dE w NA I r.nodes) (hf:dE w FA fn r.from_) (ce:kn<=1048576) (dq:I<=1048576) (di:fn<=1048576) (b8:∀s∈Q,j4 s) :
  Calls Tryz.prog 132 #[.agg (dv d),.int .i64 src,.slice KA kn kc,.agg #[.slice NA I nc,.slice FA fn fc]] w fun e w'=>e = .returned (.bool (tb (dB d src Q r)))/\Below w.heap.size w w':=by
 obtain ⟨bl,HN,bM,bu⟩:=hd4 hk hn hf b8
 clear hk hn hf b8
 have aq:=Hd (aD (aD (Below.refl w.heap.size w) (.cells (dv d) 36)) (.cells #[.slice NA I nc,.slice FA fn fc] 114))
 have B:=bS (.cells #[.slice NA I nc,.slice FA fn fc] 114) (aI w (.cells (dv d) 36))
 have g:=aI (w.alloc (.cells (dv d) 36)) (.cells #[.slice NA I nc,.slice FA fn fc] 114)
 simp only [World.size_alloc] at g
 obtain ⟨W,Y⟩:=hd2 B g
 clear B g
 by_cases c1:I<1
 ·have HR:Hid (¬dB d src Q r):=fun h=>by have:=h.len.1;rw [HN.out.1] at this;omega
  have d1:decide ((I:Int)<1)=true:=decide_eq_true (by omega)
  have cN:decide (I<1)=true:=decide_eq_true c1
  go_enter Tryz.func132,Tryz.ntmps132
  go_upto_region 1 with fail
  generalize (w.alloc (.cells (dv d) 36)).alloc (.cells #[.slice NA I nc,.slice FA fn fc] 114)=J at *
  have B:=W.out
  have g:=Y.out
  obtain ⟨V,x1,x2,x3⟩:=cs4 B
  obtain ⟨y0,y1⟩:=cs2 g
  have R:=aB B
  have U:=aB g
  clear B g
  have ah:=Hd (fun (x:Sub J)=>gK d x.v)
  have H:=fun (x:Sub J)=>jH d src x.v
  skip
  have ak:=Hd H
  clear H
  have u:=aX J
  have K:=aP J
  refine wpB J ?_
  repeat (go_big_quiet_step ((first
   | (go_at_call 220;with_reducible exact aN (ah.out _))
   | (go_at_call 221;with_reducible exact aN (ak.out _)))))
  refine wpQuiet_nil ?_
  rintro _ ⟨⟨w5,G⟩,rfl⟩
  clear u K
  have HD:=Hd (aA aq.out G)
  have am:=Hd (aC G W.out)
  have ar:=Hd (aC G Y.out)
  clear G V x1 x2 x3 y0 y1 R U
  go_wp2_with fail
  go_ret
  exact ⟨aO HR.out,HD.out⟩
 have d1:decide ((I:Int)<1)=false:=decide_eq_false (by omega)
 have cN:decide (I<1)=false:=decide_eq_false c1
 by_cases c2:ig d<(I:Int)
 ·have HR:Hid (¬dB d src Q r):=fun h=>by
   have h1:=h.len.2
   rw [HN.out.1] at h1
   unfold ig at c2
   rw [if_pos h.dev] at c2
   omega
  have d2:decide (ig d<(I:Int))=true:=decide_eq_true c2
  clear c2
  go_enter Tryz.func132,Tryz.ntmps132
  go_upto_region 1 with fail
  generalize (w.alloc (.cells (dv d) 36)).alloc (.cells #[.slice NA I nc,.slice FA fn fc] 114)=J at *
  have B:=W.out
  have g:=Y.out
  obtain ⟨V,x1,x2,x3⟩:=cs4 B
  obtain ⟨y0,y1⟩:=cs2 g
  have R:=aB B
  have U:=aB g
  clear B g
  have ah:=Hd (fun (x:Sub J)=>gK d x.v)
  have H:=fun (x:Sub J)=>jH d src x.v
  skip
  have ak:=Hd H
  clear H
  have u:=aX J
  have K:=aP J
  refine wpB J ?_
  repeat (go_big_quiet_step ((first
   | (go_at_call 220;with_reducible exact aN (ah.out _))
   | (go_at_call 221;with_reducible exact aN (ak.out _)))))
  refine wpQuiet_nil ?_
  rintro _ ⟨⟨w5,G⟩,rfl⟩
  clear u K
  have HD:=Hd (aA aq.out G)
  have am:=Hd (aC G W.out)
  have ar:=Hd (aC G Y.out)
  clear G V x1 x2 x3 y0 y1 R U
  go_wp2_with fail
  go_ret
  exact ⟨aO HR.out,HD.out⟩
 have bt:dZ d=true:=by
  cases hd:dZ d with
  | true=>rfl
  | false=>unfold ig at c2;rw [hd] at c2;simp at c2;omega
 have cx:=Hd bt
 have b3:Hid ((I:Int)<=iJ d):=by show _<=_;unfold ig at c2;rw [if_pos bt] at c2;omega
 have cJ:I<=828:=by have h1:=b3.out;have h2:=iG bt;omega
 have d2:decide (ig d<(I:Int))=false:=decide_eq_false c2
 clear c2 bt
 by_cases c3:fn=I
 ·subst c3
  have d3:((fn:Int) != (fn:Int))=false:=by simp
  obtain ⟨I,rfl⟩:∃x,x=fn:=⟨fn,rfl⟩
  obtain ⟨bn,al,rfl,a3,b9⟩:=HN.out.2 (by omega)
  obtain ⟨bf,ao,rfl,bs,bZ⟩:=bM.out.2 (by omega)
  obtain ⟨bD,b4⟩:=hd2 b9 bZ
  clear b9 bZ
  have a2:=(aq.out.cell (p:=⟨bn,al+0,none⟩) a3).trans (bD.out 0 (by omega))
  have a7:=(aq.out.cell (p:=⟨bf,ao+0,none⟩) bs).trans (b4.out 0 (by omega))
  rw [Nat.add_zero] at a2 a7
  have aY:=aK aq.out a3
  have aV:=aK aq.out bs
  obtain ⟨n0,bJ⟩:∃x,r.nodes[0]?.getD 0=x:=⟨_,rfl⟩
  obtain ⟨f0,bQ⟩:∃x,r.from_[0]?.getD 0=x:=⟨_,rfl⟩
  rw [bJ] at a2
  rw [bQ] at a7
  obtain ⟨b1,b7⟩:=hd2 bJ bQ
  have cS:(0:Int)<(I:Int):=by omega
  clear bJ bQ
  by_cases c4:n0=src
  ·have d4:(n0 != src)=false:=by simp [c4]
   cases ax:(bI d src && (decide (src % aQ d=5) || decide (src % aQ d=6))) with
   | false =>
    have HR:Hid (¬dB d src Q r):=fun h=>by
     have h1:bI d src=true:=by
      rw [←h.root.1,List.getElem?_eq_getElem (by rw [HN.out.1];omega)]
      exact h.node _ (List.getElem_mem _)
     have h2:=h.root.2.2
     rw [h1] at ax
     rcases h2 with h2|h2 <;> simp [h2] at ax
    have aW:=Hd ax
    clear ax
    go_enter Tryz.func132,Tryz.ntmps132
    go_upto_region 1 with fail
    generalize (w.alloc (.cells (dv d) 36)).alloc (.cells #[.slice (some ⟨bn,al,none⟩) I nc,.slice (some ⟨bf,ao,none⟩) I fc] 114)=J at *
    have B:=W.out
    have g:=Y.out
    obtain ⟨V,x1,x2,x3⟩:=cs4 B
    obtain ⟨y0,y1⟩:=cs2 g
    have R:=aB B
    have U:=aB g
    clear B g
    have ah:=Hd (fun (x:Sub J)=>gK d x.v)
    have H:=fun (x:Sub J)=>jH d src x.v
    rw [show (bI d src && (decide (src % aQ d=5) || decide (src % aQ d=6)))=false from aW.out] at H
    have ak:=Hd H
    clear H
    have u:=aX J
    have K:=aP J
    refine wpB J ?_
    repeat (go_big_quiet_step ((first
     | (go_at_call 220;with_reducible exact aN (ah.out _))
     | (go_at_call 221;with_reducible exact aN (ak.out _)))))
    refine wpQuiet_nil ?_
    rintro _ ⟨⟨w5,G⟩,rfl⟩
    clear u K
    have HD:=Hd (aA aq.out G)
    have am:=Hd (aC G W.out)
    have ar:=Hd (aC G Y.out)
    clear G V x1 x2 x3 y0 y1 R U a2 a7 aY aV
    go_wp2_with fail
    go_ret
    exact ⟨aO HR.out,HD.out⟩
   | true =>
    have aW:=Hd ax
    by_cases c6:f0=0
    ·have d6:(f0 != 0)=false:=by simp [c6]
     have bK:Hid (r.nodes[0]?.getD 0=src/\r.from_[0]?.getD 0=0/\(src % aQ d=5∨src % aQ d=6)):=⟨by rw [b1.out,c4],by rw [b7.out,c6],by simp at ax;exact ax.2⟩
     clear ax c4 c6
     go_enter Tryz.func132,Tryz.ntmps132
     go_upto_region 1 with fail
     generalize (w.alloc (.cells (dv d) 36)).alloc (.cells #[.slice (some ⟨bn,al,none⟩) I nc,.slice (some ⟨bf,ao,none⟩) I fc] 114)=J at *
     have B:=W.out
     have g:=Y.out
     obtain ⟨V,x1,x2,x3⟩:=cs4 B
     obtain ⟨y0,y1⟩:=cs2 g
     have R:=aB B
     have U:=aB g
     clear B g
     have ah:=Hd (fun (x:Sub J)=>gK d x.v)
     have H:=fun (x:Sub J)=>jH d src x.v
     rw [show (bI d src && (decide (src % aQ d=5) || decide (src % aQ d=6)))=true from aW.out] at H
     have ak:=Hd H
     clear H
     have u:=aX J
     have K:=aP J
     refine wpB J ?_
     repeat (go_big_quiet_step ((first
      | (go_at_call 220;with_reducible exact aN (ah.out _))
      | (go_at_call 221;with_reducible exact aN (ak.out _)))))
     refine wpQuiet_nil ?_
     rintro wq ⟨⟨w5,G⟩,hw⟩
     replace hw:wq=w5:=hw
     subst hw
     clear u K
     have HD:=Hd (aA aq.out G)
     have am:=Hd (aC G W.out)
     have ar:=Hd (aC G Y.out)
     clear G V x1 x2 x3 y0 y1 R U a2 a7 aY aV
     have cM:∀(t:TypeId) (w:World),(Instr.makeMap t none).run Tryz.prog w = .ok (.map (some w.heap.size)) (w.alloc (.map #[] 0)):=fun t w=>run_makeMap t w
     have bP:=Hd ((aJ.refl wq).pushSet)
     have B:=aC bP.out.bel am.out
     have g:=aC bP.out.bel ar.out
     have V:=aF (k:=0) B rfl
     have y0:=aF (k:=0) g rfl
     have R:=aB B
     have U:=aB g
     clear B g
     go_wp2_with fail
     clear V y0 R U cM
     go_loopw [60] (fun i wr=>∃k:Nat,k<=I/\i = .int .i64 (k:Int)/\aJ wq wr [sW wq.heap.size (r.nodes.take k)]/\(∀j,j<k→bI d (r.nodes[j]?.getD 0)=true/\(0<j→(0<=r.from_[j]?.getD 0/\r.from_[j]?.getD 0<(j:Int))/\r.nodes[(r.from_[j]?.getD 0).toNat]?.getD 0∈jT d (r.nodes[j]?.getD 0))/\(r.nodes[j]?.getD 0 % aQ d<5→r.nodes[j]?.getD 0∈Q))/\(r.nodes.take k).Nodup) (fun i _=>I - (intOf i).toNat)
     ·exact ⟨0,by omega,rfl,bP.out,fun j hj=>by omega,by simp⟩
     obtain ⟨k,hk,rfl,hs,bw,cc⟩:=hrel
     obtain ⟨HS,aw,aZ⟩:=hd3 hs bw cc
     have aE:=Hd (aA HD.out hs.bel)
     have ch:=Hd (aC hs.bel am.out)
     have cj:=Hd (aC hs.bel ar.out)
     clear hs bw cc
     by_cases bE:k<I
     ·have cK:=dT (by omega:k<I)
      have aL:k<r.nodes.length:=by rw [HN.out.1];exact bE
      have cn:=(aE.out.cell (p:=⟨bn,al+k,none⟩) a3).trans (bD.out k bE)
      have cP:=aK aE.out a3
      have av:=Hd (bN (z:=0) aL)
      have bX:dB d src Q r→bI d (r.nodes[k]?.getD 0)=true/\r.nodes[k]?.getD 0∉r.nodes.take k/\(0<k→(0<=r.from_[k]?.getD 0/\r.from_[k]?.getD 0<(k:Int))/\r.nodes[(r.from_[k]?.getD 0).toNat]?.getD 0∈jT d (r.nodes[k]?.getD 0))/\(r.nodes[k]?.getD 0 % aQ d<5→r.nodes[k]?.getD 0∈Q):=fun h=>by
       refine ⟨?_,?_,fun h0=>h.step k h0 aL,?_⟩
       ·rw [List.getElem?_eq_getElem aL];exact h.node _ (List.getElem_mem aL)
       ·have h1:=h.once
        rw [←List.take_append_drop (k+1) r.nodes,av.out] at h1
        exact (dh.1 (List.nodup_append.1 h1).1).2
       rw [List.getElem?_eq_getElem aL];exact h.pins _ (List.getElem_mem aL)
      have hg:bI d (r.nodes[k]?.getD 0)=true/\(0<k→(0<=r.from_[k]?.getD 0/\r.from_[k]?.getD 0<(k:Int))/\r.nodes[(r.from_[k]?.getD 0).toNat]?.getD 0∈jT d (r.nodes[k]?.getD 0))/\(r.nodes[k]?.getD 0 % aQ d<5→r.nodes[k]?.getD 0∈Q)→∀j,j<k+1→bI d (r.nodes[j]?.getD 0)=true/\(0<j→(0<=r.from_[j]?.getD 0/\r.from_[j]?.getD 0<(j:Int))/\r.nodes[(r.from_[j]?.getD 0).toNat]?.getD 0∈jT d (r.nodes[j]?.getD 0))/\(r.nodes[j]?.getD 0 % aQ d<5→r.nodes[j]?.getD 0∈Q):=fun h=>bU aw.out h
      obtain ⟨D,HG⟩:=hd2 bX hg
      have df:Hid (∀j,j<k→j<I):=fun j hj=>by omega
      clear bX hg aL
      obtain ⟨n,hn⟩:∃n,r.nodes[k]?.getD 0=n:=⟨_,rfl⟩
      rw [hn] at cn av D HG
      obtain ⟨i0,i1⟩:=ib (by omega:k<I)
      clear hn
      have B:=ch.out
      have g:=cj.out
      obtain ⟨V,x1,x2,x3⟩:=cs4 B
      obtain ⟨y0,y1⟩:=cs2 g
      have R:=aB B
      have U:=aB g
      clear B g
      go_wp2_with fail
      refine (fV d n _).mono ?_
      cases a6:bI d n with
      | false =>
       have HR:Hid (¬dB d src Q r):=fun h=>by have:=(D.out h).1;rw [this] at a6;cases a6
       rintro _ w2 ⟨rfl,b2⟩
       have bH:=Hd (aA aE.out b2)
       clear b2 cn HG D a6 V x1 x2 x3 y0 y1 R U
       go_wp2_with fail
       go_ret
       exact ⟨aO HR.out,bH.out⟩
      | true =>
       have bu:=Hd (EL a6)
       rintro _ w2 ⟨rfl,b2⟩
       have bW:=Hd (HS.out.below b2)
       have bH:=Hd (aA aE.out b2)
       have c9:=Hd (aC b2 ch.out)
       have dm:=Hd (aC b2 cj.out)
       have a5:=Hd a6
       have a9:=bW.out.look 0 rfl bu.out
       clear b2 cn a6 V x1 x2 x3 y0 y1 R U
       by_cases hm:n∈r.nodes.take k
       ·have HR:Hid (¬dB d src Q r):=fun h=>(D.out h).2.1 hm
        rw [decide_eq_true hm] at a9
        clear HG D hm
        go_wp2_with fail
        go_ret
        exact ⟨aO HR.out,bH.out⟩
       rw [decide_eq_false hm] at a9
       have HM:=Hd hm
       clear hm
       go_wp2_with (at_mapUpdate;refine qz rfl _ _ _ rfl _ bW.out 0 wq.heap.size (r.nodes.take k) rfl rfl (by rw [List.length_take];omega) n rfl rfl bu.out ?_;intro w3 S3 cF;have a1:=Hd S3;clear S3 cF)
       clear a9
       dsimp only [Act.put]
       have B:=aC a1.out.bel am.out
       have g:=aC a1.out.bel ar.out
       obtain ⟨V,x1,x2,x3⟩:=cs4 B
       obtain ⟨y0,y1⟩:=cs2 g
       have R:=aB B
       have U:=aB g
       clear B g
       by_cases bY:k=0
       ·have ap:Hid (0<k→(0<=r.from_[k]?.getD 0/\r.from_[k]?.getD 0<(k:Int))/\r.nodes[(r.from_[k]?.getD 0).toNat]?.getD 0∈jT d n):=fun h=>by omega
        have dk:decide ((0:Int)<(k:Int))=false:=decide_eq_false (by omega)
        have cA:decide (0<k)=false:=decide_eq_false (by omega)
        go_upto_region 10 with fail
        have u:=aX w3
        have K:=aP w3
        refine wpB w3 ?_
        repeat (go_big_quiet_step ((fail)))
        refine wpQuiet_nil ?_
        rintro _ ⟨⟨w5,G⟩,rfl⟩
        clear u K
        have Z:=Hd (a1.out.below G)
        clear G V x1 x2 x3 y0 y1 R U
        have aS:=Hd (aA HD.out Z.out.bel)
        have B:=aC Z.out.bel am.out
        have g:=aC Z.out.bel ar.out
        obtain ⟨V,x1,x2,x3⟩:=cs4 B
        obtain ⟨y0,y1⟩:=cs2 g
        have R:=aB B
        have U:=aB g
        clear B g
        go_wp2_with fail
        refine (qK d n _).mono ?_
        rw [a5.out,Bool.true_and]
        by_cases h5:n % aQ d<5
        ·rw [decide_eq_true h5]
         rintro _ w6 ⟨rfl,b6⟩
         have aG:=Hd (Z.out.below b6)
         have bp:=Hd (aA aS.out b6)
         clear b6 V x1 x2 x3 y0 y1 R U
         go_wp2_with fail
         refine (nE KA kn kc Q n _ (bl.out.below bp.out) ce).mono ?_
         by_cases hq:n∈Q
         ·rw [decide_eq_true hq]
          have ay:=Hd (HG.out ⟨a5.out,ap.out,fun _=>hq⟩)
          rintro _ w7 ⟨rfl,rfl⟩
          clear HG D hq h5
          go_wp2_with fail
          go_roundw
          ·exact ⟨k+1,by omega,by go_num,by rw [av.out];exact aG.out,ay.out,by rw [av.out,dh];exact ⟨aZ.out,HM.out⟩⟩
          simp [intOf];omega
         rw [decide_eq_false hq]
         have HR:Hid (¬dB d src Q r):=fun h=>hq ((D.out h).2.2.2 h5)
         rintro _ w7 ⟨rfl,rfl⟩
         clear HG D hq h5
         go_wp2_with fail
         go_ret
         exact ⟨aO HR.out,bp.out⟩
        rw [decide_eq_false h5]
        have ay:=Hd (HG.out ⟨a5.out,ap.out,fun h=>absurd h h5⟩)
        rintro _ w6 ⟨rfl,b6⟩
        have aG:=Hd (Z.out.below b6)
        clear b6 V x1 x2 x3 y0 y1 R U HG D h5
        go_wp2_with fail
        go_roundw
        ·exact ⟨k+1,by omega,by go_num,by rw [av.out];exact aG.out,ay.out,by rw [av.out,dh];exact ⟨aZ.out,HM.out⟩⟩
        simp [intOf];omega
       have bL:0<k:=by omega
       have dk:decide ((0:Int)<(k:Int))=true:=decide_eq_true (by omega)
       have cA:decide (0<k)=true:=decide_eq_true bL
       have br:=Hd (aA HD.out a1.out.bel)
       have cf:=(br.out.cell (p:=⟨bf,ao+k,none⟩) bs).trans (b4.out k bE)
       have bm:=aK br.out bs
       obtain ⟨f,hf⟩:∃f,r.from_[k]?.getD 0=f:=⟨_,rfl⟩
       rw [hf] at cf D HG
       have dt:=Hd hf
       clear hf
       have i3:(0:Int)<=(k:Int) - 1:=by omega
       cases hr:inR f 0 ((k:Int) - 1) with
       | false =>
        have HR:Hid (¬dB d src Q r):=fun h=>by
         have h2:=((D.out h).2.2.1 bL).1
         rw [aU.2 (by omega)] at hr
         cases hr
        have hI:=fun (x:Sub w3)=>aM f 0 ((k:Int) - 1) x.v
        rw [hr] at hI
        have HI:=Hd hI
        clear hr hI HG D bY
        go_upto_region 10 with fail
        have u:=aX w3
        have K:=aP w3
        refine wpB w3 ?_
        repeat (go_big_quiet_step ((first|(go_at_call 93;with_reducible exact aR (HI.out _)))))
        refine wpQuiet_nil ?_
        rintro _ ⟨⟨w5,G⟩,rfl⟩
        clear u K
        have Z:=Hd (a1.out.below G)
        clear G V x1 x2 x3 y0 y1 R U
        have aS:=Hd (aA HD.out Z.out.bel)
        clear cf bm
        go_wp2_with fail
        go_ret
        exact ⟨aO HR.out,aS.out⟩
       | true =>
        have cE:=aU.1 hr
        obtain ⟨F,rfl⟩:∃F:Nat,f=(F:Int):=⟨f.toNat,by omega⟩
        have hF:F<k:=by omega
        have cy:=(br.out.cell (p:=⟨bn,al+F,none⟩) a3).trans (bD.out F (by omega))
        have bv:=aK br.out a3
        rw [Int.toNat_natCast] at D HG
        obtain ⟨y,g⟩:∃y,r.nodes[F]?.getD 0=y:=⟨_,rfl⟩
        rw [g] at cy D HG
        have c8:=Hd g
        have hI:=fun (x:World)=>aM (F:Int) 0 ((k:Int) - 1) x
        rw [hr] at hI
        have cw:=Hd hI
        obtain ⟨dp,iF⟩:=ib (by omega:F<I)
        have dg:(F:Int)<(k:Int):=by omega
        clear hr cE g bY hI
        have e3:IntKind.i64.wrap ((k:Int) - 1)=(k:Int) - 1:=IntWalk.i64_in _ (by omega)
        have cd:=Hd (fun (x:World) (_:Below w3.heap.size w3 x)=>xq d n x)
        have G:=(Below.refl w3.heap.size w3).drew
        have bj:Hid (∀w',Below w3.heap.size w3 w'→(KD w' w.heap.size d (w'.cell? ⟨w.heap.size+1,0,none⟩=some (.slice (some ⟨bn,al,none⟩) I nc)/\w'.cell? ⟨w.heap.size+1,1,none⟩=some (.slice (some ⟨bf,ao,none⟩) I fc)/\w'.cell? ⟨bf,ao+k,none⟩=some (.int .i64 (F:Int))/\w'.cell? ⟨bn,al+F,none⟩=some (.int .i64 y)))):=fun v hv=>⟨(hv.cell (p:=⟨w.heap.size,0,none⟩) R).trans V,(hv.cell (p:=⟨w.heap.size,1,none⟩) R).trans x1,(hv.cell (p:=⟨w.heap.size,2,none⟩) R).trans x2,(hv.cell (p:=⟨w.heap.size,3,none⟩) R).trans x3,(hv.cell (p:=⟨w.heap.size+1,0,none⟩) U).trans y0,(hv.cell (p:=⟨w.heap.size+1,1,none⟩) U).trans y1,(hv.cell (p:=⟨bf,ao+k,none⟩) bm).trans cf,(hv.cell (p:=⟨bn,al+F,none⟩) bv).trans cy⟩
        obtain ⟨bb,bO⟩:∃b,decide (y∈jT d n)=b:=⟨_,rfl⟩
        have bV:=Hd bO
        have cB:=Hd (fun (A:Option Addr) (m c:Nat) (v:World) (h:dE v A m (jT d n)) (hm:m<=1048576)=>(by have h2:=nE A m c (jT d n) y v h hm;rwa [bO] at h2:Calls Tryz.prog 129 #[.slice A m c,.int .i64 y] v fun e w'=>e = .returned (.bool bb)/\v=w'))
        clear bO
        go_upto_region 10 with fail
        go_region_held3 (fun w'=>KD w' w.heap.size d (w'.cell? ⟨w.heap.size+1,0,none⟩=some (.slice (some ⟨bn,al,none⟩) I nc)/\w'.cell? ⟨w.heap.size+1,1,none⟩=some (.slice (some ⟨bf,ao,none⟩) I fc)/\w'.cell? ⟨bf,ao+k,none⟩=some (.int .i64 (F:Int))/\w'.cell? ⟨bn,al+F,none⟩=some (.int .i64 y)))
         (first|exact bj.out _ G)
         ((first
          | (go_at_call 93;(with_reducible refine (cw.out _).mono ?_);rintro _ wi ⟨rfl,rfl⟩)
          | (go_at_call 149;(with_reducible refine (cd.out _ G).mono ?_);rintro e5 w5 ⟨A5,n5,c5,rfl,o5,b5⟩;have O5:=Hd o5.ints;have cO:n5<=1048576:=(by have h5:=o5.len;have h6:=pO d n;omega);replace G:=aA G b5;clear b5 o5)
          | (go_at_call 129;(with_reducible refine (cB.out A5 n5 c5 _ O5.out cO).mono ?_);rintro _ wi ⟨rfl,rfl⟩)))
        have Z:=Hd (a1.out.below G)
        clear G V x1 x2 x3 y0 y1 R U cf bm cy bv bj e3
        cases bb with
        | true =>
         have cr:=of_decide_eq_true bV.out
         have ap:Hid (0<k→(0<=(F:Int)/\(F:Int)<(k:Int))/\y∈jT d n):=fun _=>⟨⟨by omega,by omega⟩,cr⟩
         have aS:=Hd (aA HD.out Z.out.bel)
         have B:=aC Z.out.bel am.out
         have g:=aC Z.out.bel ar.out
         obtain ⟨V,x1,x2,x3⟩:=cs4 B
         obtain ⟨y0,y1⟩:=cs2 g
         have R:=aB B
         have U:=aB g
         clear B g
         go_wp2_with fail
         refine (qK d n _).mono ?_
         rw [a5.out,Bool.true_and]
         by_cases h5:n % aQ d<5
         ·rw [decide_eq_true h5]
          rintro _ w6 ⟨rfl,b6⟩
          have aG:=Hd (Z.out.below b6)
          have bp:=Hd (aA aS.out b6)
          clear b6 V x1 x2 x3 y0 y1 R U
          go_wp2_with fail
          refine (nE KA kn kc Q n _ (bl.out.below bp.out) ce).mono ?_
          by_cases hq:n∈Q
          ·rw [decide_eq_true hq]
           have ay:=Hd (HG.out ⟨a5.out,ap.out,fun _=>hq⟩)
           rintro _ w7 ⟨rfl,rfl⟩
           clear HG D hq h5
           go_wp2_with fail
           go_roundw
           ·exact ⟨k+1,by omega,by go_num,by rw [av.out];exact aG.out,ay.out,by rw [av.out,dh];exact ⟨aZ.out,HM.out⟩⟩
           simp [intOf];omega
          rw [decide_eq_false hq]
          have HR:Hid (¬dB d src Q r):=fun h=>hq ((D.out h).2.2.2 h5)
          rintro _ w7 ⟨rfl,rfl⟩
          clear HG D hq h5
          go_wp2_with fail
          go_ret
          exact ⟨aO HR.out,bp.out⟩
         ·rw [decide_eq_false h5]
          have ay:=Hd (HG.out ⟨a5.out,ap.out,fun h=>absurd h h5⟩)
          rintro _ w6 ⟨rfl,b6⟩
          have aG:=Hd (Z.out.below b6)
          clear b6 V x1 x2 x3 y0 y1 R U HG D h5
          go_wp2_with fail
          go_roundw
          ·exact ⟨k+1,by omega,by go_num,by rw [av.out];exact aG.out,ay.out,by rw [av.out,dh];exact ⟨aZ.out,HM.out⟩⟩
          ·simp [intOf];omega
        | false =>
         have HR:Hid (¬dB d src Q r):=fun h=>of_decide_eq_false bV.out ((D.out h).2.2.1 bL).2
         clear HG D
         have aS:=Hd (aA HD.out Z.out.bel)
         go_wp2_with fail
         go_ret
         exact ⟨aO HR.out,aS.out⟩
     have bg:k=I:=by omega
     have cK:=dF (by omega:I<=k)
     have ct:Hid (r.nodes.take k=r.nodes):=by show _=_;rw [bg];exact List.take_of_length_le (by rw [HN.out.1];exact Nat.le_refl _)
     rw [ct.out] at HS aZ
     rw [bg] at aw
     clear bg
     obtain ⟨wo,rfl⟩:∃x,x=wr:=⟨wr,rfl⟩
     go_wp2_with fail
     go_loopw [117] (fun i wr=>∃q:Nat,q<=kn/\i = .int .i64 (q:Int)/\wo=wr/\∀j,j<q→Q[j]?.getD 0∈r.nodes) (fun i _=>kn - (intOf i).toNat)
     ·exact ⟨0,by omega,rfl,rfl,fun j hj=>by omega⟩
     obtain ⟨q,hq,rfl,rfl,ca⟩:=hrel
     have bG:=Hd ca
     clear ca
     by_cases bz:q<kn
     ·have cv:=dT (by omega:q<kn)
      have bo:q<Q.length:=by rw [bl.out.1];exact bz
      obtain ⟨bk,ok,b0,cl,cg⟩:=bl.out.2 (by omega)
      have cH:=Hd b0
      have ck:=(aE.out.cell (p:=⟨bk,ok+q,none⟩) cl).trans (cg q bz)
      have da:=aK aE.out cl
      have be:=bu.out _ (List.getElem_mem bo)
      rw [show Q[q]=Q[q]?.getD 0 by rw [List.getElem?_eq_getElem bo];rfl] at be
      have HG:Hid (Q[q]?.getD 0∈r.nodes→∀j,j<q+1→Q[j]?.getD 0∈r.nodes):=fun h=>bU bG.out h
      have D:Hid (Q[q]?.getD 0∉r.nodes→¬dB d src Q r):=fun h h'=>h (by rw [List.getElem?_eq_getElem bo];exact h'.sinks _ (List.getElem_mem bo))
      clear cg bo b0
      obtain rfl:=cH.out
      generalize Q[q]?.getD 0=s at *
      have a9:=HS.out.look 0 rfl be
      obtain ⟨i0,i1⟩:=ib (by omega:q<kn)
      clear be
      by_cases hm:s∈r.nodes
      ·have ay:=Hd (HG.out hm)
       rw [decide_eq_true hm] at a9
       clear HG D hm
       go_wp2_with fail
       go_roundw
       ·exact ⟨q+1,by omega,by go_num,by first|rfl|trivial,ay.out⟩
       simp [intOf];omega
      have HR:=Hd (D.out hm)
      rw [decide_eq_false hm] at a9
      clear HG D hm
      go_wp2_with fail
      go_ret
      exact ⟨aO HR.out,aE.out⟩
     have ci:q=kn:=by omega
     have cv:=dF (by omega:kn<=q)
     have HR:Hid (dB d src Q r):=by
      refine ⟨⟨by rw [HN.out.1];omega,by rw [HN.out.1];exact b3.out⟩,cx.out,by rw [bM.out.1,HN.out.1],fun n hn=>?_,aZ.out,bK.out,fun i h0 hi=>(aw.out i (by rw [←HN.out.1];exact hi)).2.1 h0,fun n hn h5=>?_,fun n hn=>?_⟩
      ·obtain ⟨j,hj,rfl⟩:=List.getElem_of_mem hn
       have h:=(aw.out j (by rw [←HN.out.1];exact hj)).1
       rwa [List.getElem?_eq_getElem hj] at h
      ·obtain ⟨j,hj,rfl⟩:=List.getElem_of_mem hn
       have h:=(aw.out j (by rw [←HN.out.1];exact hj)).2.2
       rw [List.getElem?_eq_getElem hj] at h
       exact h h5
      obtain ⟨j,hj,rfl⟩:=List.getElem_of_mem hn
      have h:=bG.out j (by rw [ci,←bl.out.1];exact hj)
      rwa [List.getElem?_eq_getElem hj] at h
     clear aw bG ci
     go_wp2_with fail
     go_ret
     exact ⟨dU HR.out,aE.out⟩
    have HR:Hid (¬dB d src Q r):=fun h=>c6 (by rw [←b7.out];exact h.root.2.1)
    have d6:(f0 != 0)=true:=by simp [c6]
    clear ax c6
    go_enter Tryz.func132,Tryz.ntmps132
    go_upto_region 1 with fail
    generalize (w.alloc (.cells (dv d) 36)).alloc (.cells #[.slice (some ⟨bn,al,none⟩) I nc,.slice (some ⟨bf,ao,none⟩) I fc] 114)=J at *
    have B:=W.out
    have g:=Y.out
    obtain ⟨V,x1,x2,x3⟩:=cs4 B
    obtain ⟨y0,y1⟩:=cs2 g
    have R:=aB B
    have U:=aB g
    clear B g
    have ah:=Hd (fun (x:Sub J)=>gK d x.v)
    have H:=fun (x:Sub J)=>jH d src x.v
    rw [show (bI d src && (decide (src % aQ d=5) || decide (src % aQ d=6)))=true from aW.out] at H
    have ak:=Hd H
    clear H
    have u:=aX J
    have K:=aP J
    refine wpB J ?_
    repeat (go_big_quiet_step ((first
     | (go_at_call 220;with_reducible exact aN (ah.out _))
     | (go_at_call 221;with_reducible exact aN (ak.out _)))))
    refine wpQuiet_nil ?_
    rintro _ ⟨⟨w5,G⟩,rfl⟩
    clear u K
    have HD:=Hd (aA aq.out G)
    have am:=Hd (aC G W.out)
    have ar:=Hd (aC G Y.out)
    clear G V x1 x2 x3 y0 y1 R U a2 a7 aY aV
    go_wp2_with fail
    go_ret
    exact ⟨aO HR.out,HD.out⟩
  have HR:Hid (¬dB d src Q r):=fun h=>c4 (by rw [←b1.out];exact h.root.1)
  have d4:(n0 != src)=true:=by simp [c4]
  clear c4
  go_enter Tryz.func132,Tryz.ntmps132
  go_upto_region 1 with fail
  generalize (w.alloc (.cells (dv d) 36)).alloc (.cells #[.slice (some ⟨bn,al,none⟩) I nc,.slice (some ⟨bf,ao,none⟩) I fc] 114)=J at *
  have B:=W.out
  have g:=Y.out
  obtain ⟨V,x1,x2,x3⟩:=cs4 B
  obtain ⟨y0,y1⟩:=cs2 g
  have R:=aB B
  have U:=aB g
  clear B g
  have ah:=Hd (fun (x:Sub J)=>gK d x.v)
  have H:=fun (x:Sub J)=>jH d src x.v
  skip
  have ak:=Hd H
  clear H
  have u:=aX J
  have K:=aP J
  refine wpB J ?_
  repeat (go_big_quiet_step ((first
   | (go_at_call 220;with_reducible exact aN (ah.out _))
   | (go_at_call 221;with_reducible exact aN (ak.out _)))))
  refine wpQuiet_nil ?_
  rintro _ ⟨⟨w5,G⟩,rfl⟩
  clear u K
  have HD:=Hd (aA aq.out G)
  have am:=Hd (aC G W.out)
  have ar:=Hd (aC G Y.out)
  clear G V x1 x2 x3 y0 y1 R U a2 a7 aY aV
  go_wp2_with fail
  go_ret
  exact ⟨aO HR.out,HD.out⟩
 have HR:Hid (¬dB d src Q r):=fun h=>c3 (by rw [←bM.out.1,←HN.out.1];exact h.same)
 have d3:((fn:Int) != (I:Int))=true:=by simp;omega
 clear c3
 go_enter Tryz.func132,Tryz.ntmps132
 go_upto_region 1 with fail
 generalize (w.alloc (.cells (dv d) 36)).alloc (.cells #[.slice NA I nc,.slice FA fn fc] 114)=J at *
 have B:=W.out
 have g:=Y.out
 obtain ⟨V,x1,x2,x3⟩:=cs4 B
 obtain ⟨y0,y1⟩:=cs2 g
 have R:=aB B
 have U:=aB g
 clear B g
 have ah:=Hd (fun (x:Sub J)=>gK d x.v)
 have H:=fun (x:Sub J)=>jH d src x.v
 skip
 have ak:=Hd H
 clear H
 have u:=aX J
 have K:=aP J
 refine wpB J ?_
 repeat (go_big_quiet_step ((first
  | (go_at_call 220;with_reducible exact aN (ah.out _))
  | (go_at_call 221;with_reducible exact aN (ak.out _)))))
 refine wpQuiet_nil ?_
 rintro _ ⟨⟨w5,G⟩,rfl⟩
 clear u K
 have HD:=Hd (aA aq.out G)
 have am:=Hd (aC G W.out)
 have ar:=Hd (aC G Y.out)
 clear G V x1 x2 x3 y0 y1 R U
 go_wp2_with fail
 go_ret
 exact ⟨aO HR.out,HD.out⟩
end Go.Proofs.YtofihjoanjkdmaaGreat
