/- Sets of numbers as maps to truths that the call owns. -/
import Derived.Test.YtofihjoanjkdmaaGreatLayG4
import Derived.Test.YtofihjoanjkdmaaGreatNmB
import Derived.Test.YtofihjoanjkdmaaGreatRtS
namespace Go.Proofs.YtofihjoanjkdmaaGreat
set_option maxHeartbeats 8000000
set_option maxRecDepth 100000
open Go.RowKit
theorem nZ {v:Value} {x:Bool} {p:List MemPlace} (h:plainElem (H:=Unit) Tryz.prog 4 v=some (.lit (.bool x),p)):v = .bool x:=by
 unfold plainElem at h
 rw [Tryz.underlying4] at h
 cases v <;> simp at h
 rename_i y
 rw [h.1]
def lM (w:World) (b:Nat) (l:List Int):Prop :=
 ∃D:DataW Unit,w.ownsMap Tryz.prog 3 (plainElem Tryz.prog 4) b l.length D/\∀x:Int,D.atKey (.int .i64 x) (.lit (.bool false)) = .lit (.bool (decide (x∈l)))
theorem lM.made (w:World):lM (w.alloc (.map #[] 0)) w.heap.size []:=⟨.map [],World.ownsMap_made w _ _ _,fun x=>by simp;rfl⟩
theorem lM.lt {w:World} {b:Nat} {l:List Int} (h:lM w b l):b<w.heap.size:=by
 obtain ⟨D,h1,_⟩:=h
 exact h1.lt
theorem lM.keep {w w':World} {b:Nat} {l:List Int} (h:lM w b l) (hk:w'.heap[b]?=w.heap[b]?):lM w' b l:=by
 obtain ⟨D,⟨es,ck,hb,hr⟩,h2⟩:=h
 exact ⟨D,⟨es,ck,hk.trans hb,hr⟩,h2⟩
theorem lM.below {w w':World} {b:Nat} {l:List Int} (h:lM w b l) (hb:Below w.heap.size w w'):lM w' b l:=h.keep (hb.block b h.lt)
theorem zX (w:World):(zeroValue 4).run Tryz.prog w = .ok (.bool false) w:=by kernel_rfl
theorem lM.look {w:World} {b:Nat} {l:List Int} (h:lM w b l) {key:Int} (hk:j4 key):(Instr.lookup 171 (.map (some b)) (.int .i64 key) false).run Tryz.prog w = .ok (.bool (decide (key∈l))) w:=by
 obtain ⟨D,h1,h2⟩:=h
 obtain ⟨v,ps,hr,hv⟩:=h1.lookup yI Tryz.underlying171 (zX w) (plainElem_bool Tryz.underlying4 false) (zI hk)
 rw [h2 key] at hv
 rw [hr,nZ hv]
abbrev oL (b:Nat) (l:List Int):Pc := .own b fun w=>lM w b l
theorem aM.setPut {W w:World} {ps:List Pc} (S:aM W w ps) (i:Nat) {b:Nat} {l:List Int} (hi:ps[i]?=some (oL b l)) (hn:l.length<100000) (key:Int) (hk:j4 key) :
  ∃w',(Instr.mapUpdate 171 (.map (some b)) (.int .i64 key) (.bool true)).run Tryz.prog w = .ok () w'/\aM W w' (ps.set i (oL b (l++[key])))/\w.heap.size<=w'.heap.size:=by
 obtain ⟨⟨D,h1,h2⟩,_,_⟩:=S.own i hi
 obtain ⟨w',r1,r2,r3⟩:=h1.store yI Tryz.underlying171 (by unfold maxLen;omega) (zI hk) (plainElem_bool Tryz.underlying4 true)
 refine ⟨w',r1,S.own_upd i hi r3.grown ⟨_,by rw [List.length_append];exact r2,fun x=>?_⟩ (fun w1 w2 e h=>h.keep e),r3.grown.size⟩
 have hm:=World.ownsMap.isMap h1
 by_cases e:x=key
 ·subst e
  rw [Maps.atKey_put_same hm (by trivial)]
  simp
 ·have hne:(Lit.int .i64 x) ≠ .int .i64 key:=fun h=>e (by injection h)
  rw [Maps.atKey_put_other hne,h2 x]
  simp [e]
theorem aM.pushSet {W w:World} {ps:List Pc} (h:aM W w ps):aM W (w.alloc (.map #[] 0)) (ps++[oL w.heap.size []]) :=
 h.push (aF (Below.refl _ _) _) (G:=[w.heap.size]) ⟨rfl,by simp,lM.made w,fun _ _ e h=>h.keep e⟩ (by simp) (by simp)
theorem aM.look {W w:World} {ps:List Pc} (S:aM W w ps) (i:Nat) {b:Nat} {l:List Int} (hi:ps[i]?=some (oL b l)) {key:Int} (hk:j4 key):(Instr.lookup 171 (.map (some b)) (.int .i64 key) false).run Tryz.prog w = .ok (.bool (decide (key∈l))) w:=(S.own i hi).1.look hk
theorem nT {ops:Array Oper} {rest:List Oper} {o:Oper} {a:Act} {Q:Exit→Act→World→Prop} {w W:World} (hg:o.guard=none) (mo x v:Operand) (hop:o.op=Op.mapUpdate 171 mo x v)
  (ps:List Pc) (S:aM W w ps) (i b:Nat) (l:List Int) (hi:ps[i]?=some (oL b l)) (hm:a.eval mo = .map (some b)) (hn:l.length<100000) (key:Int) (hx:a.eval x = .int .i64 key) (hv:a.eval v = .bool true)
  (hk:j4 key) (h:∀w',aM W w' (ps.set i (oL b (l++[key])))→w.heap.size<=w'.heap.size→wpList Tryz.prog ops Q rest (a.put o.dst undef) w'):wpList Tryz.prog ops Q (o :: rest) a w:=by
 refine wpList_plain hg fun K' hK'=>?_
 obtain ⟨w',hrun,r1,r2⟩:=S.setPut i hi hn key hk
 unfold Oper.wp
 simp [execOp,hop,hm,hx,hv,hrun,Result.andThen]
 exact hK' _ _ (h w' r1 r2)
theorem gZ (d:Dev) (n:Int) (w:World) :
  Calls Tryz.prog 221 #[.agg #[.int .i64 d.W,.int .i64 d.H,.int .i64 d.T,.int .i64 d.R],.int .i64 n] w fun e w'=>e = .returned (.bool (bH d n && (decide (n % aX d=5) || decide (n % aX d=6))))/\Below w.heap.size w w':=by
 go_enter Tryz.func221,Tryz.ntmps221
 go_wp2_with fail
 cases hno:bH d n with
 | false =>
  have HNO:=Hd hno
  refine (eU d n _).mono ?_
  rw [hno]
  rintro e w1 ⟨rfl,b1⟩
  have HB1:=Hd (aB (aF (Below.refl _ _) _) b1)
  clear b1 hno
  go_wp2_with fail
  go_ret
  exact ⟨bT (by rw [HNO.out];rfl),HB1.out⟩
 | true =>
  have hni:fF d n=true:=by unfold bH at hno;rw [Bool.and_eq_true] at hno;exact hno.1
  have HNI:=Hd hni
  have HNO:=Hd hno
  refine (eU d n _).mono ?_
  rw [hno]
  rintro e w1 ⟨rfl,b1⟩
  have HB1:=Hd b1
  have hs1:=b1.size
  simp only [World.size_alloc] at hs1
  obtain ⟨hcc,hff⟩:=bI b1
  clear b1 hno hni
  go_wp2_with fail
  refine (iy d n _ HNI.out).mono ?_
  rintro e w2 ⟨rfl,b2⟩
  have HB2:=Hd (aB (aF (Below.refl _ _) _) (aB HB1.out b2))
  clear b2 hcc hff
  generalize hk:n % aX d=k at *
  have HK:=Hd hk
  clear hk
  by_cases h5:k=5
  ·have q:(k==5)=true:=by simpa using h5
   have H5:=Hd h5
   clear h5
   go_wp2_with fail
   go_ret
   exact ⟨bT (by rw [HNO.out,HK.out,H5.out];rfl),HB2.out⟩
  ·have q:(k==5)=false:=by simpa using h5
   by_cases h6:k=6
   ·have q6:(k==6)=true:=by simpa using h6
    have H6:=Hd h6
    clear h5 h6
    go_wp2_with fail
    go_ret
    exact ⟨bT (by rw [HNO.out,HK.out,H6.out];rfl),HB2.out⟩
   ·have q6:(k==6)=false:=by simpa using h6
    have H5:=Hd h5
    have H6:=Hd h6
    clear h5 h6
    go_wp2_with fail
    go_ret
    exact ⟨bT (by rw [HNO.out,HK.out];simp [H5.out,H6.out]),HB2.out⟩
theorem mG (d:Dev) (n:Int):(iE d n).length<=26:=by
 unfold iE
 split
 ·rename_i h
  have hno:=h.1
  unfold bH at hno
  rw [Bool.and_eq_true] at hno
  have hT:=bC (jF hno.1).1
  have h1:=jB (iW d (n / aX d) (n % aX d))
  have hK:∀(r:Int) (k:Nat),(gB d (n / aX d) (n % aX d) r (k:Int) (bP (k:Int)).toNat).length<=1+k % 2:=by
   intro r k
   have hw:(bP (k:Int)).toNat=1+k % 2:=by unfold bP;omega
   have hS:∀s:Int,(jw d (n / aX d) (n % aX d) r (k:Int) s).length<=1:=by
    intro s;unfold jw j5;split <;> (try split) <;> simp
   have:∀s:Nat,(gB d (n / aX d) (n % aX d) r (k:Int) s).length<=s:=by
    intro s
    induction s with
    | zero=>simp [gB]
    | succ s ih=>rw [kr,List.length_append];have:=hS ((s:Int)+1);omega
   have:=this (bP (k:Int)).toNat
   omega
  have hR:∀(r:Int) (k:Nat),(gX d (n / aX d) (n % aX d) r k).length<=k+k / 2:=by
   intro r k
   induction k with
   | zero=>simp [gX]
   | succ k ih=>rw [ku,List.length_append];have:=hK r k;omega
  have hA:∀r:Nat,(fU d (n / aX d) (n % aX d) r).length<=6 * r:=by
   intro r
   induction r with
   | zero=>simp [fU]
   | succ r ih=>rw [kw,List.length_append];have:=hR (r:Int) d.T.toNat;omega
  have:=hA 4
  have ho:(gW d (n / aX d)).length<=2:=by unfold gW;split <;> simp
  have hI:(iW d (n / aX d) (n % aX d)).length<=26:=by
   unfold iW
   rw [List.length_append]
   split
   ·omega
   ·simp;omega
  omega
 ·simp
/-! ### a tile's node -/
theorem fG (d:Dev) (w:World) :
  Calls Tryz.prog 220 #[.agg #[.int .i64 d.W,.int .i64 d.H,.int .i64 d.T,.int .i64 d.R]] w fun e w'=>e = .returned (.int .i64 (gK d))/\Below w.heap.size w w':=by
 have HB0:=Hd (aF (Below.refl w.heap.size w) (.cells #[.int .i64 d.W,.int .i64 d.H,.int .i64 d.T,.int .i64 d.R] 36))
 have hx:=aK w (.cells #[.int .i64 d.W,.int .i64 d.H,.int .i64 d.T,.int .i64 d.R] 36)
 have HXB:=Hd hx
 have x0:=aA (k:=0) hx rfl
 have x1:=aA (k:=1) hx rfl
 have x2:=aA (k:=2) hx rfl
 have x3:=aA (k:=3) hx rfl
 have lx:=aC hx
 clear hx
 cases hd:dQ d with
 | false =>
  have HR:Hid (gK d=0):=by show _=_;unfold gK;rw [hd];rfl
  have HD:=Hd hd
  clear hd
  go_enter Tryz.func220,Tryz.ntmps220
  go_upto_region 1 with fail
  generalize w.alloc (.cells #[.int .i64 d.W,.int .i64 d.H,.int .i64 d.T,.int .i64 d.R] 36)=W9 at *
  go_wp2_with fail
  refine (fO d _).mono ?_
  rw [HD.out]
  rintro _ w1 ⟨rfl,b1⟩
  have HB1:=Hd (aB HB0.out b1)
  clear b1 x0 x1 x2 x3 lx
  go_wp2_with fail
  go_ret
  exact ⟨aQ HR.out.symm,HB1.out⟩
 | true =>
  have HR:Hid (gK d=fe d):=by show _=_;unfold gK;rw [if_pos hd]
  have HD:=Hd hd
  clear hd
  go_enter Tryz.func220,Tryz.ntmps220
  go_upto_region 1 with fail
  generalize w.alloc (.cells #[.int .i64 d.W,.int .i64 d.H,.int .i64 d.T,.int .i64 d.R] 36)=W9 at *
  go_wp2_with fail
  refine (fO d _).mono ?_
  rw [HD.out]
  rintro _ w1 ⟨rfl,b1⟩
  have HB1:=Hd (aB HB0.out b1)
  have hx:=aD b1 HXB.out
  clear b1 x0 x1 x2 x3 lx
  have x0:=aA (k:=0) hx rfl
  have x1:=aA (k:=1) hx rfl
  have x2:=aA (k:=2) hx rfl
  have x3:=aA (k:=3) hx rfl
  have lx:=aC hx
  clear hx
  go_wp2_with fail
  refine (ko d _ HD.out).mono ?_
  rintro _ w2 ⟨rfl,b2⟩
  have HB2:=Hd (aB HB1.out b2)
  clear b2 x0 x1 x2 x3 lx
  go_wp2_with fail
  go_ret
  exact ⟨aQ HR.out.symm,HB2.out⟩
theorem bU.bd {d:Dev} {src:Int} {ks:List Int} {r:Rou} (h:bU d src ks r):r.nodes.length<=828:=by
 have h1:=h.len.2
 have h2:=fT h.dev
 omega
theorem yf {d:Dev} {n:Int} (h:bH d n=true):j4 n:=by
 unfold bH at h
 rw [Bool.and_eq_true] at h
 have:=jF h.1
 unfold j4
 omega
theorem uy (d:Dev) (src:Int) (ks:List Int) (r:Rou) (KA NA FA:Option Addr) (kn kc nn nc fn fc:Nat) (w:World) (hk:dA w KA kn ks) (hn:dA w NA nn r.nodes) (hf:dA w FA fn r.from_) (hkn:kn<=1048576) (hnn:nn<=1048576) (hfn:fn<=1048576) (h64:∀s∈ks,j4 s) :
  Calls Tryz.prog 132 #[.agg #[.int .i64 d.W,.int .i64 d.H,.int .i64 d.T,.int .i64 d.R],.int .i64 src,.slice KA kn kc,.agg #[.slice NA nn nc,.slice FA fn fc]] w fun e w'=>e = .returned (.bool (tb (bU d src ks r)))/\Below w.heap.size w w':=by
 have HKS:=Hd hk
 have HN:=Hd hn
 have HFR:=Hd hf
 have H64:=Hd h64
 clear hk hn hf h64
 have HB0:=Hd (aF (aF (Below.refl w.heap.size w) (.cells #[.int .i64 d.W,.int .i64 d.H,.int .i64 d.T,.int .i64 d.R] 36)) (.cells #[.slice NA nn nc,.slice FA fn fc] 114))
 have hx:=bg (.cells #[.slice NA nn nc,.slice FA fn fc] 114) (aK w (.cells #[.int .i64 d.W,.int .i64 d.H,.int .i64 d.T,.int .i64 d.R] 36))
 have hy:=aK (w.alloc (.cells #[.int .i64 d.W,.int .i64 d.H,.int .i64 d.T,.int .i64 d.R] 36)) (.cells #[.slice NA nn nc,.slice FA fn fc] 114)
 simp only [World.size_alloc] at hy
 have HXB:=Hd hx
 have HYB:=Hd hy
 clear hx hy
 by_cases c1:nn<1
 ·have HR:Hid (¬bU d src ks r):=fun h=>by have:=h.len.1;rw [HN.out.1] at this;omega
  have d1:decide ((nn:Int)<1)=true:=decide_eq_true (by omega)
  have d1':decide (nn<1)=true:=decide_eq_true c1
  go_enter Tryz.func132,Tryz.ntmps132
  go_upto_region 1 with fail
  generalize (w.alloc (.cells #[.int .i64 d.W,.int .i64 d.H,.int .i64 d.T,.int .i64 d.R] 36)).alloc (.cells #[.slice NA nn nc,.slice FA fn fc] 114)=W9 at *
  have hx:=HXB.out
  have hy:=HYB.out
  have x0:=aA (k:=0) hx rfl
  have x1:=aA (k:=1) hx rfl
  have x2:=aA (k:=2) hx rfl
  have x3:=aA (k:=3) hx rfl
  have y0:=aA (k:=0) hy rfl
  have y1:=aA (k:=1) hy rfl
  have lx:=aC hx
  have ly:=aC hy
  clear hx hy
  have HRN:=Hd (fun (x:Sub W9)=>fG d x.v)
  have hOP:=fun (x:Sub W9)=>gZ d src x.v
  skip
  have HOP:=Hd hOP
  clear hOP
  have hsub:=aZ W9
  have hsc:=aR W9
  refine aI W9 (by kernel_rfl) (by kernel_rfl) (Below.refl _ _) ?_
  repeat (go_big_quiet_step ((first
   | (go_at_call 220;with_reducible exact aO (HRN.out _))
   | (go_at_call 221;with_reducible exact aO (HOP.out _)))))
  refine wpQuiet_nil ?_
  rintro _ ⟨⟨w5,hD⟩,rfl⟩
  clear hsub hsc
  have HD:=Hd (aB HB0.out hD)
  have HX5:=Hd (aD hD HXB.out)
  have HY5:=Hd (aD hD HYB.out)
  clear hD
  clear x0 x1 x2 x3 y0 y1 lx ly
  go_wp2_with fail
  go_ret
  exact ⟨aP HR.out,HD.out⟩
 ·have d1:decide ((nn:Int)<1)=false:=decide_eq_false (by omega)
  have d1':decide (nn<1)=false:=decide_eq_false c1
  by_cases c2:gK d<(nn:Int)
  ·have HR:Hid (¬bU d src ks r):=fun h=>by
    have h1:=h.len.2
    rw [HN.out.1] at h1
    unfold gK at c2
    rw [if_pos h.dev] at c2
    omega
   have d2:decide (gK d<(nn:Int))=true:=decide_eq_true c2
   clear c2
   go_enter Tryz.func132,Tryz.ntmps132
   go_upto_region 1 with fail
   generalize (w.alloc (.cells #[.int .i64 d.W,.int .i64 d.H,.int .i64 d.T,.int .i64 d.R] 36)).alloc (.cells #[.slice NA nn nc,.slice FA fn fc] 114)=W9 at *
   have hx:=HXB.out
   have hy:=HYB.out
   have x0:=aA (k:=0) hx rfl
   have x1:=aA (k:=1) hx rfl
   have x2:=aA (k:=2) hx rfl
   have x3:=aA (k:=3) hx rfl
   have y0:=aA (k:=0) hy rfl
   have y1:=aA (k:=1) hy rfl
   have lx:=aC hx
   have ly:=aC hy
   clear hx hy
   have HRN:=Hd (fun (x:Sub W9)=>fG d x.v)
   have hOP:=fun (x:Sub W9)=>gZ d src x.v
   skip
   have HOP:=Hd hOP
   clear hOP
   have hsub:=aZ W9
   have hsc:=aR W9
   refine aI W9 (by kernel_rfl) (by kernel_rfl) (Below.refl _ _) ?_
   repeat (go_big_quiet_step ((first
    | (go_at_call 220;with_reducible exact aO (HRN.out _))
    | (go_at_call 221;with_reducible exact aO (HOP.out _)))))
   refine wpQuiet_nil ?_
   rintro _ ⟨⟨w5,hD⟩,rfl⟩
   clear hsub hsc
   have HD:=Hd (aB HB0.out hD)
   have HX5:=Hd (aD hD HXB.out)
   have HY5:=Hd (aD hD HYB.out)
   clear hD
   clear x0 x1 x2 x3 y0 y1 lx ly
   go_wp2_with fail
   go_ret
   exact ⟨aP HR.out,HD.out⟩
  ·have hdv:dQ d=true:=by
    cases hd:dQ d with
    | true=>rfl
    | false=>unfold gK at c2;rw [hd] at c2;simp at c2;omega
   have HDV:=Hd hdv
   have HLE:Hid ((nn:Int)<=fe d):=by show _<=_;unfold gK at c2;rw [if_pos hdv] at c2;omega
   have hn828:nn<=828:=by have h1:=HLE.out;have h2:=fT hdv;omega
   have d2:decide (gK d<(nn:Int))=false:=decide_eq_false c2
   clear c2 hdv
   by_cases c3:fn=nn
   ·subst c3
    have d3:((fn:Int) != (fn:Int))=false:=by simp
    obtain ⟨nn,rfl⟩:∃x,x=fn:=⟨fn,rfl⟩
    obtain ⟨bn,obn,rfl,hbn,hcn⟩:=HN.out.2 (by omega)
    obtain ⟨bf,obf,rfl,hbf,hcf⟩:=HFR.out.2 (by omega)
    have HCN:=Hd hcn
    have HCF:=Hd hcf
    clear hcn hcf
    have cn0:=(HB0.out.cell (p:=⟨bn,obn+0,none⟩) hbn).trans (HCN.out 0 (by omega))
    have cf0:=(HB0.out.cell (p:=⟨bf,obf+0,none⟩) hbf).trans (HCF.out 0 (by omega))
    rw [Nat.add_zero] at cn0 cf0
    have lbn0:=aL HB0.out hbn
    have lbf0:=aL HB0.out hbf
    obtain ⟨n0,hn0⟩:∃x,r.nodes[0]?.getD 0=x:=⟨_,rfl⟩
    obtain ⟨f0,hf0⟩:∃x,r.from_[0]?.getD 0=x:=⟨_,rfl⟩
    rw [hn0] at cn0
    rw [hf0] at cf0
    have HN0:=Hd hn0
    have HF0:=Hd hf0
    have inn0:(0:Int)<(nn:Int):=by omega
    clear hn0 hf0
    by_cases c4:n0=src
    ·have d4:(n0 != src)=false:=by simp [c4]
     cases hop:(bH d src && (decide (src % aX d=5) || decide (src % aX d=6))) with
     | false =>
      have HR:Hid (¬bU d src ks r):=fun h=>by
       have h1:bH d src=true:=by
        rw [←h.root.1,List.getElem?_eq_getElem (by rw [HN.out.1];omega)]
        exact h.node _ (List.getElem_mem _)
       have h2:=h.root.2.2
       rw [h1] at hop
       rcases h2 with h2|h2 <;> simp [h2] at hop
      have HOPV:=Hd hop
      clear hop
      go_enter Tryz.func132,Tryz.ntmps132
      go_upto_region 1 with fail
      generalize (w.alloc (.cells #[.int .i64 d.W,.int .i64 d.H,.int .i64 d.T,.int .i64 d.R] 36)).alloc (.cells #[.slice (some ⟨bn,obn,none⟩) nn nc,.slice (some ⟨bf,obf,none⟩) nn fc] 114)=W9 at *
      have hx:=HXB.out
      have hy:=HYB.out
      have x0:=aA (k:=0) hx rfl
      have x1:=aA (k:=1) hx rfl
      have x2:=aA (k:=2) hx rfl
      have x3:=aA (k:=3) hx rfl
      have y0:=aA (k:=0) hy rfl
      have y1:=aA (k:=1) hy rfl
      have lx:=aC hx
      have ly:=aC hy
      clear hx hy
      have HRN:=Hd (fun (x:Sub W9)=>fG d x.v)
      have hOP:=fun (x:Sub W9)=>gZ d src x.v
      rw [show (bH d src && (decide (src % aX d=5) || decide (src % aX d=6)))=false from HOPV.out] at hOP
      have HOP:=Hd hOP
      clear hOP
      have hsub:=aZ W9
      have hsc:=aR W9
      refine aI W9 (by kernel_rfl) (by kernel_rfl) (Below.refl _ _) ?_
      repeat (go_big_quiet_step ((first
       | (go_at_call 220;with_reducible exact aO (HRN.out _))
       | (go_at_call 221;with_reducible exact aO (HOP.out _)))))
      refine wpQuiet_nil ?_
      rintro _ ⟨⟨w5,hD⟩,rfl⟩
      clear hsub hsc
      have HD:=Hd (aB HB0.out hD)
      have HX5:=Hd (aD hD HXB.out)
      have HY5:=Hd (aD hD HYB.out)
      clear hD
      clear x0 x1 x2 x3 y0 y1 lx ly
      clear cn0 cf0 lbn0 lbf0
      go_wp2_with fail
      go_ret
      exact ⟨aP HR.out,HD.out⟩
     | true =>
      have HOPV:=Hd hop
      by_cases c6:f0=0
      ·have d6:(f0 != 0)=false:=by simp [c6]
       have HROOT:Hid (r.nodes[0]?.getD 0=src/\r.from_[0]?.getD 0=0/\(src % aX d=5∨src % aX d=6)):=⟨by rw [HN0.out,c4],by rw [HF0.out,c6],by simp at hop;exact hop.2⟩
       clear hop c4 c6
       go_enter Tryz.func132,Tryz.ntmps132
       go_upto_region 1 with fail
       generalize (w.alloc (.cells #[.int .i64 d.W,.int .i64 d.H,.int .i64 d.T,.int .i64 d.R] 36)).alloc (.cells #[.slice (some ⟨bn,obn,none⟩) nn nc,.slice (some ⟨bf,obf,none⟩) nn fc] 114)=W9 at *
       have hx:=HXB.out
       have hy:=HYB.out
       have x0:=aA (k:=0) hx rfl
       have x1:=aA (k:=1) hx rfl
       have x2:=aA (k:=2) hx rfl
       have x3:=aA (k:=3) hx rfl
       have y0:=aA (k:=0) hy rfl
       have y1:=aA (k:=1) hy rfl
       have lx:=aC hx
       have ly:=aC hy
       clear hx hy
       have HRN:=Hd (fun (x:Sub W9)=>fG d x.v)
       have hOP:=fun (x:Sub W9)=>gZ d src x.v
       rw [show (bH d src && (decide (src % aX d=5) || decide (src % aX d=6)))=true from HOPV.out] at hOP
       have HOP:=Hd hOP
       clear hOP
       have hsub:=aZ W9
       have hsc:=aR W9
       refine aI W9 (by kernel_rfl) (by kernel_rfl) (Below.refl _ _) ?_
       repeat (go_big_quiet_step ((first
        | (go_at_call 220;with_reducible exact aO (HRN.out _))
        | (go_at_call 221;with_reducible exact aO (HOP.out _)))))
       refine wpQuiet_nil ?_
       rintro wq ⟨⟨w5,hD⟩,hw⟩
       replace hw:wq=w5:=hw
       subst hw
       clear hsub hsc
       have HD:=Hd (aB HB0.out hD)
       have HX5:=Hd (aD hD HXB.out)
       have HY5:=Hd (aD hD HYB.out)
       clear hD
       clear x0 x1 x2 x3 y0 y1 lx ly
       clear cn0 cf0 lbn0 lbf0
       have hmm:∀(t:TypeId) (w:World),(Instr.makeMap t none).run Tryz.prog w = .ok (.map (some w.heap.size)) (w.alloc (.map #[] 0)):=fun t w=>run_makeMap t w
       have HS0:=Hd ((aM.refl wq).pushSet)
       have hx:=aD HS0.out.bel HX5.out
       have hy:=aD HS0.out.bel HY5.out
       have x0:=aA (k:=0) hx rfl
       have y0:=aA (k:=0) hy rfl
       have lx:=aC hx
       have ly:=aC hy
       clear hx hy
       go_wp2_with fail
       clear x0 y0 lx ly hmm
       go_loopw [60] (fun i wr=>∃k:Nat,k<=nn/\i = .int .i64 (k:Int)/\aM wq wr [oL wq.heap.size (r.nodes.take k)]/\(∀j,j<k→bH d (r.nodes[j]?.getD 0)=true/\(0<j→(0<=r.from_[j]?.getD 0/\r.from_[j]?.getD 0<(j:Int))/\r.nodes[(r.from_[j]?.getD 0).toNat]?.getD 0∈iE d (r.nodes[j]?.getD 0))/\(r.nodes[j]?.getD 0 % aX d<5→r.nodes[j]?.getD 0∈ks))/\(r.nodes.take k).Nodup) (fun i _=>nn - (intOf i).toNat)
       case atStart=>exact ⟨0,by omega,rfl,HS0.out,fun j hj=>by omega,by simp⟩
       case round =>
        obtain ⟨k,hk,rfl,hs,hall,hnd⟩:=hrel
        have HS:=Hd hs
        have HALL:=Hd hall
        have HND:=Hd hnd
        have HBW:=Hd (aB HD.out hs.bel)
        have HXR:=Hd (aD hs.bel HX5.out)
        have HYR:=Hd (aD hs.bel HY5.out)
        clear hs hall hnd
        by_cases hlt:k<nn
        ·have hdk:decide ((k:Int)<(nn:Int))=true:=by simp;omega
         have hkl:k<r.nodes.length:=by rw [HN.out.1];exact hlt
         have cn:=(HBW.out.cell (p:=⟨bn,obn+k,none⟩) hbn).trans (HCN.out k hlt)
         have lbn':=aL HBW.out hbn
         have HSN:=Hd (bJ (z:=0) hkl)
         have hno:bU d src ks r→bH d (r.nodes[k]?.getD 0)=true/\r.nodes[k]?.getD 0∉r.nodes.take k/\(0<k→(0<=r.from_[k]?.getD 0/\r.from_[k]?.getD 0<(k:Int))/\r.nodes[(r.from_[k]?.getD 0).toNat]?.getD 0∈iE d (r.nodes[k]?.getD 0))/\(r.nodes[k]?.getD 0 % aX d<5→r.nodes[k]?.getD 0∈ks):=fun h=>by
          refine ⟨?_,?_,fun h0=>h.step k h0 hkl,?_⟩
          ·rw [List.getElem?_eq_getElem hkl];exact h.node _ (List.getElem_mem hkl)
          ·have h1:=h.once
           rw [←List.take_append_drop (k+1) r.nodes,HSN.out] at h1
           exact (dG.1 (List.nodup_append.1 h1).1).2
          ·rw [List.getElem?_eq_getElem hkl];exact h.pins _ (List.getElem_mem hkl)
         have hg:bH d (r.nodes[k]?.getD 0)=true/\(0<k→(0<=r.from_[k]?.getD 0/\r.from_[k]?.getD 0<(k:Int))/\r.nodes[(r.from_[k]?.getD 0).toNat]?.getD 0∈iE d (r.nodes[k]?.getD 0))/\(r.nodes[k]?.getD 0 % aX d<5→r.nodes[k]?.getD 0∈ks)→∀j,j<k+1→bH d (r.nodes[j]?.getD 0)=true/\(0<j→(0<=r.from_[j]?.getD 0/\r.from_[j]?.getD 0<(j:Int))/\r.nodes[(r.from_[j]?.getD 0).toNat]?.getD 0∈iE d (r.nodes[j]?.getD 0))/\(r.nodes[j]?.getD 0 % aX d<5→r.nodes[j]?.getD 0∈ks):=fun h=>bS HALL.out h
         have HNO:=Hd hno
         have HG:=Hd hg
         have HKL:Hid (∀j,j<k→j<nn):=fun j hj=>by omega
         clear hno hg hkl
         obtain ⟨n,hn⟩:∃n,r.nodes[k]?.getD 0=n:=⟨_,rfl⟩
         rw [hn] at cn HSN HNO HG
         have i0:(0:Int)<=(k:Int):=by omega
         have i1:(k:Int)<(nn:Int):=by omega
         clear hn
         have hx:=HXR.out
         have hy:=HYR.out
         have x0:=aA (k:=0) hx rfl
         have x1:=aA (k:=1) hx rfl
         have x2:=aA (k:=2) hx rfl
         have x3:=aA (k:=3) hx rfl
         have y0:=aA (k:=0) hy rfl
         have y1:=aA (k:=1) hy rfl
         have lx:=aC hx
         have ly:=aC hy
         clear hx hy
         go_wp2_with fail
         refine (eU d n _).mono ?_
         cases hok:bH d n with
         | false =>
          have HR:Hid (¬bU d src ks r):=fun h=>by have:=(HNO.out h).1;rw [this] at hok;cases hok
          rintro _ w2 ⟨rfl,b2⟩
          have HB2:=Hd (aB HBW.out b2)
          clear b2 cn HG HNO hok
          clear x0 x1 x2 x3 y0 y1 lx ly
          go_wp2_with fail
          go_ret
          exact ⟨aP HR.out,HB2.out⟩
         | true =>
          have H64:=Hd (yf hok)
          rintro _ w2 ⟨rfl,b2⟩
          have HS2:=Hd (HS.out.below b2)
          have HB2:=Hd (aB HBW.out b2)
          have HX2:=Hd (aD b2 HXR.out)
          have HY2:=Hd (aD b2 HYR.out)
          have HOK:=Hd hok
          have hlk:=HS2.out.look 0 rfl H64.out
          clear b2 cn hok
          clear x0 x1 x2 x3 y0 y1 lx ly
          by_cases hm:n∈r.nodes.take k
          ·have HR:Hid (¬bU d src ks r):=fun h=>(HNO.out h).2.1 hm
           rw [decide_eq_true hm] at hlk
           clear HG HNO hm
           go_wp2_with fail
           go_ret
           exact ⟨aP HR.out,HB2.out⟩
          ·rw [decide_eq_false hm] at hlk
           have HM:=Hd hm
           clear hm
           go_wp2_with (at_mapUpdate;refine nT rfl _ _ _ rfl _ HS2.out 0 wq.heap.size (r.nodes.take k) rfl rfl (by rw [List.length_take];omega) n rfl rfl H64.out ?_;intro w3 S3 hz3;have HS3:=Hd S3;clear S3 hz3)
           clear hlk
           dsimp only [Act.put]
           have hx:=aD HS3.out.bel HX5.out
           have hy:=aD HS3.out.bel HY5.out
           have x0:=aA (k:=0) hx rfl
           have x1:=aA (k:=1) hx rfl
           have x2:=aA (k:=2) hx rfl
           have x3:=aA (k:=3) hx rfl
           have y0:=aA (k:=0) hy rfl
           have y1:=aA (k:=1) hy rfl
           have lx:=aC hx
           have ly:=aC hy
           clear hx hy
           by_cases hk0:k=0
           ·have HFROM:Hid (0<k→(0<=r.from_[k]?.getD 0/\r.from_[k]?.getD 0<(k:Int))/\r.nodes[(r.from_[k]?.getD 0).toNat]?.getD 0∈iE d n):=fun h=>by omega
            have dk:decide ((0:Int)<(k:Int))=false:=decide_eq_false (by omega)
            have dk':decide (0<k)=false:=decide_eq_false (by omega)
            go_upto_region 10 with fail
            have hsub:=aZ w3
            have hsc:=aR w3
            refine aI w3 (by kernel_rfl) (by kernel_rfl) (Below.refl _ _) ?_
            repeat (go_big_quiet_step ((fail)))
            refine wpQuiet_nil ?_
            rintro _ ⟨⟨w5,hD⟩,rfl⟩
            clear hsub hsc
            have HS4:=Hd (HS3.out.below hD)
            clear hD x0 x1 x2 x3 y0 y1 lx ly
            have HB4:=Hd (aB HD.out HS4.out.bel)
            have hx:=aD HS4.out.bel HX5.out
            have hy:=aD HS4.out.bel HY5.out
            have x0:=aA (k:=0) hx rfl
            have x1:=aA (k:=1) hx rfl
            have x2:=aA (k:=2) hx rfl
            have x3:=aA (k:=3) hx rfl
            have y0:=aA (k:=0) hy rfl
            have y1:=aA (k:=1) hy rfl
            have lx:=aC hx
            have ly:=aC hy
            clear hx hy
            go_wp2_with fail
            refine (og d n _).mono ?_
            rw [HOK.out,Bool.true_and]
            by_cases h5:n % aX d<5
            ·rw [decide_eq_true h5]
             rintro _ w6 ⟨rfl,b6⟩
             have HS6:=Hd (HS4.out.below b6)
             have HB6:=Hd (aB HB4.out b6)
             clear b6 x0 x1 x2 x3 y0 y1 lx ly
             go_wp2_with fail
             refine (kT KA kn kc ks n _ (HKS.out.below HB6.out) hkn).mono ?_
             by_cases hq:n∈ks
             ·rw [decide_eq_true hq]
              have HG2:=Hd (HG.out ⟨HOK.out,HFROM.out,fun _=>hq⟩)
              rintro _ w7 ⟨rfl,rfl⟩
              clear HG HNO hq h5
              go_wp2_with fail
              go_roundw
              case rel=>exact ⟨k+1,by omega,by go_num,by rw [HSN.out];exact HS6.out,HG2.out,by rw [HSN.out,dG];exact ⟨HND.out,HM.out⟩⟩
              case measure=>simp [intOf];omega
             ·rw [decide_eq_false hq]
              have HR:Hid (¬bU d src ks r):=fun h=>hq ((HNO.out h).2.2.2 h5)
              rintro _ w7 ⟨rfl,rfl⟩
              clear HG HNO hq h5
              go_wp2_with fail
              go_ret
              exact ⟨aP HR.out,HB6.out⟩
            ·rw [decide_eq_false h5]
             have HG2:=Hd (HG.out ⟨HOK.out,HFROM.out,fun h=>absurd h h5⟩)
             rintro _ w6 ⟨rfl,b6⟩
             have HS6:=Hd (HS4.out.below b6)
             clear b6 x0 x1 x2 x3 y0 y1 lx ly HG HNO h5
             go_wp2_with fail
             go_roundw
             case rel=>exact ⟨k+1,by omega,by go_num,by rw [HSN.out];exact HS6.out,HG2.out,by rw [HSN.out,dG];exact ⟨HND.out,HM.out⟩⟩
             case measure=>simp [intOf];omega
           ·have hkp:0<k:=by omega
            have dk:decide ((0:Int)<(k:Int))=true:=decide_eq_true (by omega)
            have dk':decide (0<k)=true:=decide_eq_true hkp
            have HB3:=Hd (aB HD.out HS3.out.bel)
            have cf:=(HB3.out.cell (p:=⟨bf,obf+k,none⟩) hbf).trans (HCF.out k hlt)
            have lbf':=aL HB3.out hbf
            obtain ⟨f,hf⟩:∃f,r.from_[k]?.getD 0=f:=⟨_,rfl⟩
            rw [hf] at cf HNO HG
            have HFE:=Hd hf
            clear hf
            have i3:(0:Int)<=(k:Int) - 1:=by omega
            cases hr:inR f 0 ((k:Int) - 1) with
            | false =>
             have HR:Hid (¬bU d src ks r):=fun h=>by
              have h2:=((HNO.out h).2.2.1 hkp).1
              rw [aV.2 (by omega)] at hr
              cases hr
             have hI:=fun (x:Sub w3)=>aN f 0 ((k:Int) - 1) x.v
             rw [hr] at hI
             have HI:=Hd hI
             clear hr hI HG HNO hk0
             go_upto_region 10 with fail
             have hsub:=aZ w3
             have hsc:=aR w3
             refine aI w3 (by kernel_rfl) (by kernel_rfl) (Below.refl _ _) ?_
             repeat (go_big_quiet_step ((first|(go_at_call 93;with_reducible exact aU (HI.out _)))))
             refine wpQuiet_nil ?_
             rintro _ ⟨⟨w5,hD⟩,rfl⟩
             clear hsub hsc
             have HS4:=Hd (HS3.out.below hD)
             clear hD x0 x1 x2 x3 y0 y1 lx ly
             have HB4:=Hd (aB HD.out HS4.out.bel)
             clear cf lbf'
             go_wp2_with fail
             go_ret
             exact ⟨aP HR.out,HB4.out⟩
            | true =>
             have hf2:=aV.1 hr
             obtain ⟨F,rfl⟩:∃F:Nat,f=(F:Int):=⟨f.toNat,by omega⟩
             have hF:F<k:=by omega
             have cy:=(HB3.out.cell (p:=⟨bn,obn+F,none⟩) hbn).trans (HCN.out F (by omega))
             have lbn3:=aL HB3.out hbn
             rw [Int.toNat_natCast] at HNO HG
             obtain ⟨y,hy⟩:∃y,r.nodes[F]?.getD 0=y:=⟨_,rfl⟩
             rw [hy] at cy HNO HG
             have HYE:=Hd hy
             have hI:=fun (x:World)=>aN (F:Int) 0 ((k:Int) - 1) x
             rw [hr] at hI
             have HIR:=Hd hI
             have iF0:(0:Int)<=(F:Int):=by omega
             have iF:(F:Int)<(nn:Int):=by omega
             have iFk:(F:Int)<(k:Int):=by omega
             clear hr hf2 hy hk0 hI
             have e3:IntKind.i64.wrap ((k:Int) - 1)=(k:Int) - 1:=IntWalk.i64_in _ (by omega)
             have HSRC:=Hd (fun (x:World) (_:Below w3.heap.size w3 x)=>sO d n x)
             have hD:=(Below.refl w3.heap.size w3).drew
             have HKEEP:Hid (∀w',Below w3.heap.size w3 w'→(w'.cell? ⟨w.heap.size,0,none⟩=some (.int .i64 d.W)/\w'.cell? ⟨w.heap.size,1,none⟩=some (.int .i64 d.H)/\w'.cell? ⟨w.heap.size,2,none⟩=some (.int .i64 d.T)/\w'.cell? ⟨w.heap.size,3,none⟩=some (.int .i64 d.R)/\w'.cell? ⟨w.heap.size+1,0,none⟩=some (.slice (some ⟨bn,obn,none⟩) nn nc)/\w'.cell? ⟨w.heap.size+1,1,none⟩=some (.slice (some ⟨bf,obf,none⟩) nn fc)/\w'.cell? ⟨bf,obf+k,none⟩=some (.int .i64 (F:Int))/\w'.cell? ⟨bn,obn+F,none⟩=some (.int .i64 y))):=fun v hv=>⟨(hv.cell (p:=⟨w.heap.size,0,none⟩) lx).trans x0,(hv.cell (p:=⟨w.heap.size,1,none⟩) lx).trans x1,(hv.cell (p:=⟨w.heap.size,2,none⟩) lx).trans x2,(hv.cell (p:=⟨w.heap.size,3,none⟩) lx).trans x3,(hv.cell (p:=⟨w.heap.size+1,0,none⟩) ly).trans y0,(hv.cell (p:=⟨w.heap.size+1,1,none⟩) ly).trans y1,(hv.cell (p:=⟨bf,obf+k,none⟩) lbf').trans cf,(hv.cell (p:=⟨bn,obn+F,none⟩) lbn3).trans cy⟩
             obtain ⟨bb,hbb⟩:∃b,decide (y∈iE d n)=b:=⟨_,rfl⟩
             have HBB:=Hd hbb
             have HHI:=Hd (fun (A:Option Addr) (m c:Nat) (v:World) (h:dA v A m (iE d n)) (hm:m<=1048576)=>(by have h2:=kT A m c (iE d n) y v h hm;rwa [hbb] at h2:Calls Tryz.prog 129 #[.slice A m c,.int .i64 y] v fun e w'=>e = .returned (.bool bb)/\v=w'))
             clear hbb
             go_upto_region 10 with fail
             go_region_held3 (fun w'=>w'.cell? ⟨w.heap.size,0,none⟩=some (.int .i64 d.W)/\w'.cell? ⟨w.heap.size,1,none⟩=some (.int .i64 d.H)/\w'.cell? ⟨w.heap.size,2,none⟩=some (.int .i64 d.T)/\w'.cell? ⟨w.heap.size,3,none⟩=some (.int .i64 d.R)/\w'.cell? ⟨w.heap.size+1,0,none⟩=some (.slice (some ⟨bn,obn,none⟩) nn nc)/\w'.cell? ⟨w.heap.size+1,1,none⟩=some (.slice (some ⟨bf,obf,none⟩) nn fc)/\w'.cell? ⟨bf,obf+k,none⟩=some (.int .i64 (F:Int))/\w'.cell? ⟨bn,obn+F,none⟩=some (.int .i64 y))
              (first|exact HKEEP.out _ hD)
              ((first
               | (go_at_call 93;(with_reducible refine (HIR.out _).mono ?_);rintro _ wi ⟨rfl,rfl⟩)
               | (go_at_call 149;(with_reducible refine (HSRC.out _ hD).mono ?_);rintro e5 w5 ⟨A5,n5,c5,rfl,o5,b5⟩;have O5:=Hd o5.ints;have hn5:n5<=1048576:=(by have h5:=o5.len;have h6:=mG d n;omega);replace hD:=aB hD b5;clear b5 o5)
               | (go_at_call 129;(with_reducible refine (HHI.out A5 n5 c5 _ O5.out hn5).mono ?_);rintro _ wi ⟨rfl,rfl⟩)))
             have HS4:=Hd (HS3.out.below hD)
             clear hD x0 x1 x2 x3 y0 y1 lx ly cf lbf' cy lbn3 HKEEP e3
             cases bb with
             | true =>
              have hys:=of_decide_eq_true HBB.out
              have HFROM:Hid (0<k→(0<=(F:Int)/\(F:Int)<(k:Int))/\y∈iE d n):=fun _=>⟨⟨by omega,by omega⟩,hys⟩
              have HB4:=Hd (aB HD.out HS4.out.bel)
              have hx:=aD HS4.out.bel HX5.out
              have hy:=aD HS4.out.bel HY5.out
              have x0:=aA (k:=0) hx rfl
              have x1:=aA (k:=1) hx rfl
              have x2:=aA (k:=2) hx rfl
              have x3:=aA (k:=3) hx rfl
              have y0:=aA (k:=0) hy rfl
              have y1:=aA (k:=1) hy rfl
              have lx:=aC hx
              have ly:=aC hy
              clear hx hy
              go_wp2_with fail
              refine (og d n _).mono ?_
              rw [HOK.out,Bool.true_and]
              by_cases h5:n % aX d<5
              ·rw [decide_eq_true h5]
               rintro _ w6 ⟨rfl,b6⟩
               have HS6:=Hd (HS4.out.below b6)
               have HB6:=Hd (aB HB4.out b6)
               clear b6 x0 x1 x2 x3 y0 y1 lx ly
               go_wp2_with fail
               refine (kT KA kn kc ks n _ (HKS.out.below HB6.out) hkn).mono ?_
               by_cases hq:n∈ks
               ·rw [decide_eq_true hq]
                have HG2:=Hd (HG.out ⟨HOK.out,HFROM.out,fun _=>hq⟩)
                rintro _ w7 ⟨rfl,rfl⟩
                clear HG HNO hq h5
                go_wp2_with fail
                go_roundw
                case rel=>exact ⟨k+1,by omega,by go_num,by rw [HSN.out];exact HS6.out,HG2.out,by rw [HSN.out,dG];exact ⟨HND.out,HM.out⟩⟩
                case measure=>simp [intOf];omega
               ·rw [decide_eq_false hq]
                have HR:Hid (¬bU d src ks r):=fun h=>hq ((HNO.out h).2.2.2 h5)
                rintro _ w7 ⟨rfl,rfl⟩
                clear HG HNO hq h5
                go_wp2_with fail
                go_ret
                exact ⟨aP HR.out,HB6.out⟩
              ·rw [decide_eq_false h5]
               have HG2:=Hd (HG.out ⟨HOK.out,HFROM.out,fun h=>absurd h h5⟩)
               rintro _ w6 ⟨rfl,b6⟩
               have HS6:=Hd (HS4.out.below b6)
               clear b6 x0 x1 x2 x3 y0 y1 lx ly HG HNO h5
               go_wp2_with fail
               go_roundw
               case rel=>exact ⟨k+1,by omega,by go_num,by rw [HSN.out];exact HS6.out,HG2.out,by rw [HSN.out,dG];exact ⟨HND.out,HM.out⟩⟩
               case measure=>simp [intOf];omega
             | false =>
              have HR:Hid (¬bU d src ks r):=fun h=>of_decide_eq_false HBB.out ((HNO.out h).2.2.1 hkp).2
              clear HG HNO
              have HB4:=Hd (aB HD.out HS4.out.bel)
              go_wp2_with fail
              go_ret
              exact ⟨aP HR.out,HB4.out⟩
        ·have hkn':k=nn:=by omega
         have hdk:decide ((k:Int)<(nn:Int))=false:=by simp;omega
         have HTK:Hid (r.nodes.take k=r.nodes):=by show _=_;rw [hkn'];exact List.take_of_length_le (by rw [HN.out.1];exact Nat.le_refl _)
         rw [HTK.out] at HS HND
         rw [hkn'] at HALL
         clear hkn'
         obtain ⟨wo,rfl⟩:∃x,x=wr:=⟨wr,rfl⟩
         go_wp2_with fail
         go_loopw [117] (fun i wr=>∃q:Nat,q<=kn/\i = .int .i64 (q:Int)/\wo=wr/\∀j,j<q→ks[j]?.getD 0∈r.nodes) (fun i _=>kn - (intOf i).toNat)
         case atStart=>exact ⟨0,by omega,rfl,rfl,fun j hj=>by omega⟩
         case round =>
          obtain ⟨q,hq,rfl,rfl,hks⟩:=hrel
          have HQS:=Hd hks
          clear hks
          by_cases hltq:q<kn
          ·have hdq:decide ((q:Int)<(kn:Int))=true:=by simp;omega
           have hql:q<ks.length:=by rw [HKS.out.1];exact hltq
           obtain ⟨bk,ok,hKA,hbk,hck⟩:=HKS.out.2 (by omega)
           have HKA:=Hd hKA
           have ck:=(HBW.out.cell (p:=⟨bk,ok+q,none⟩) hbk).trans (hck q hltq)
           have lbk:=aL HBW.out hbk
           have hs64:=H64.out _ (List.getElem_mem hql)
           rw [show ks[q]=ks[q]?.getD 0 by rw [List.getElem?_eq_getElem hql];rfl] at hs64
           have HG:Hid (ks[q]?.getD 0∈r.nodes→∀j,j<q+1→ks[j]?.getD 0∈r.nodes):=fun h=>bS HQS.out h
           have HNO:Hid (ks[q]?.getD 0∉r.nodes→¬bU d src ks r):=fun h h'=>h (by rw [List.getElem?_eq_getElem hql];exact h'.sinks _ (List.getElem_mem hql))
           clear hck hql hKA
           obtain rfl:=HKA.out
           generalize ks[q]?.getD 0=s at *
           have hlk:=HS.out.look 0 rfl hs64
           have i0:(0:Int)<=(q:Int):=by omega
           have i1:(q:Int)<(kn:Int):=by omega
           clear hs64
           by_cases hm:s∈r.nodes
           ·have HG2:=Hd (HG.out hm)
            rw [decide_eq_true hm] at hlk
            clear HG HNO hm
            go_wp2_with fail
            go_roundw
            case rel=>exact ⟨q+1,by omega,by go_num,by first|rfl|trivial,HG2.out⟩
            case measure=>simp [intOf];omega
           ·have HR:=Hd (HNO.out hm)
            rw [decide_eq_false hm] at hlk
            clear HG HNO hm
            go_wp2_with fail
            go_ret
            exact ⟨aP HR.out,HBW.out⟩
          ·have hqn:q=kn:=by omega
           have hdq:decide ((q:Int)<(kn:Int))=false:=by simp;omega
           have HR:Hid (bU d src ks r):=by
            refine ⟨⟨by rw [HN.out.1];omega,by rw [HN.out.1];exact HLE.out⟩,HDV.out,by rw [HFR.out.1,HN.out.1],fun n hn=>?_,HND.out,HROOT.out,fun i h0 hi=>(HALL.out i (by rw [←HN.out.1];exact hi)).2.1 h0,fun n hn h5=>?_,fun n hn=>?_⟩
            ·obtain ⟨j,hj,rfl⟩:=List.getElem_of_mem hn
             have h:=(HALL.out j (by rw [←HN.out.1];exact hj)).1
             rwa [List.getElem?_eq_getElem hj] at h
            ·obtain ⟨j,hj,rfl⟩:=List.getElem_of_mem hn
             have h:=(HALL.out j (by rw [←HN.out.1];exact hj)).2.2
             rw [List.getElem?_eq_getElem hj] at h
             exact h h5
            ·obtain ⟨j,hj,rfl⟩:=List.getElem_of_mem hn
             have h:=HQS.out j (by rw [hqn,←HKS.out.1];exact hj)
             rwa [List.getElem?_eq_getElem hj] at h
           clear HALL HQS hqn
           go_wp2_with fail
           go_ret
           exact ⟨cO HR.out,HBW.out⟩
      ·have HR:Hid (¬bU d src ks r):=fun h=>c6 (by rw [←HF0.out];exact h.root.2.1)
       have d6:(f0 != 0)=true:=by simp [c6]
       clear hop c6
       go_enter Tryz.func132,Tryz.ntmps132
       go_upto_region 1 with fail
       generalize (w.alloc (.cells #[.int .i64 d.W,.int .i64 d.H,.int .i64 d.T,.int .i64 d.R] 36)).alloc (.cells #[.slice (some ⟨bn,obn,none⟩) nn nc,.slice (some ⟨bf,obf,none⟩) nn fc] 114)=W9 at *
       have hx:=HXB.out
       have hy:=HYB.out
       have x0:=aA (k:=0) hx rfl
       have x1:=aA (k:=1) hx rfl
       have x2:=aA (k:=2) hx rfl
       have x3:=aA (k:=3) hx rfl
       have y0:=aA (k:=0) hy rfl
       have y1:=aA (k:=1) hy rfl
       have lx:=aC hx
       have ly:=aC hy
       clear hx hy
       have HRN:=Hd (fun (x:Sub W9)=>fG d x.v)
       have hOP:=fun (x:Sub W9)=>gZ d src x.v
       rw [show (bH d src && (decide (src % aX d=5) || decide (src % aX d=6)))=true from HOPV.out] at hOP
       have HOP:=Hd hOP
       clear hOP
       have hsub:=aZ W9
       have hsc:=aR W9
       refine aI W9 (by kernel_rfl) (by kernel_rfl) (Below.refl _ _) ?_
       repeat (go_big_quiet_step ((first
        | (go_at_call 220;with_reducible exact aO (HRN.out _))
        | (go_at_call 221;with_reducible exact aO (HOP.out _)))))
       refine wpQuiet_nil ?_
       rintro _ ⟨⟨w5,hD⟩,rfl⟩
       clear hsub hsc
       have HD:=Hd (aB HB0.out hD)
       have HX5:=Hd (aD hD HXB.out)
       have HY5:=Hd (aD hD HYB.out)
       clear hD
       clear x0 x1 x2 x3 y0 y1 lx ly
       clear cn0 cf0 lbn0 lbf0
       go_wp2_with fail
       go_ret
       exact ⟨aP HR.out,HD.out⟩
    ·have HR:Hid (¬bU d src ks r):=fun h=>c4 (by rw [←HN0.out];exact h.root.1)
     have d4:(n0 != src)=true:=by simp [c4]
     clear c4
     go_enter Tryz.func132,Tryz.ntmps132
     go_upto_region 1 with fail
     generalize (w.alloc (.cells #[.int .i64 d.W,.int .i64 d.H,.int .i64 d.T,.int .i64 d.R] 36)).alloc (.cells #[.slice (some ⟨bn,obn,none⟩) nn nc,.slice (some ⟨bf,obf,none⟩) nn fc] 114)=W9 at *
     have hx:=HXB.out
     have hy:=HYB.out
     have x0:=aA (k:=0) hx rfl
     have x1:=aA (k:=1) hx rfl
     have x2:=aA (k:=2) hx rfl
     have x3:=aA (k:=3) hx rfl
     have y0:=aA (k:=0) hy rfl
     have y1:=aA (k:=1) hy rfl
     have lx:=aC hx
     have ly:=aC hy
     clear hx hy
     have HRN:=Hd (fun (x:Sub W9)=>fG d x.v)
     have hOP:=fun (x:Sub W9)=>gZ d src x.v
     skip
     have HOP:=Hd hOP
     clear hOP
     have hsub:=aZ W9
     have hsc:=aR W9
     refine aI W9 (by kernel_rfl) (by kernel_rfl) (Below.refl _ _) ?_
     repeat (go_big_quiet_step ((first
      | (go_at_call 220;with_reducible exact aO (HRN.out _))
      | (go_at_call 221;with_reducible exact aO (HOP.out _)))))
     refine wpQuiet_nil ?_
     rintro _ ⟨⟨w5,hD⟩,rfl⟩
     clear hsub hsc
     have HD:=Hd (aB HB0.out hD)
     have HX5:=Hd (aD hD HXB.out)
     have HY5:=Hd (aD hD HYB.out)
     clear hD
     clear x0 x1 x2 x3 y0 y1 lx ly
     clear cn0 cf0 lbn0 lbf0
     go_wp2_with fail
     go_ret
     exact ⟨aP HR.out,HD.out⟩
   ·have HR:Hid (¬bU d src ks r):=fun h=>c3 (by rw [←HFR.out.1,←HN.out.1];exact h.same)
    have d3:((fn:Int) != (nn:Int))=true:=by simp;omega
    clear c3
    go_enter Tryz.func132,Tryz.ntmps132
    go_upto_region 1 with fail
    generalize (w.alloc (.cells #[.int .i64 d.W,.int .i64 d.H,.int .i64 d.T,.int .i64 d.R] 36)).alloc (.cells #[.slice NA nn nc,.slice FA fn fc] 114)=W9 at *
    have hx:=HXB.out
    have hy:=HYB.out
    have x0:=aA (k:=0) hx rfl
    have x1:=aA (k:=1) hx rfl
    have x2:=aA (k:=2) hx rfl
    have x3:=aA (k:=3) hx rfl
    have y0:=aA (k:=0) hy rfl
    have y1:=aA (k:=1) hy rfl
    have lx:=aC hx
    have ly:=aC hy
    clear hx hy
    have HRN:=Hd (fun (x:Sub W9)=>fG d x.v)
    have hOP:=fun (x:Sub W9)=>gZ d src x.v
    skip
    have HOP:=Hd hOP
    clear hOP
    have hsub:=aZ W9
    have hsc:=aR W9
    refine aI W9 (by kernel_rfl) (by kernel_rfl) (Below.refl _ _) ?_
    repeat (go_big_quiet_step ((first
     | (go_at_call 220;with_reducible exact aO (HRN.out _))
     | (go_at_call 221;with_reducible exact aO (HOP.out _)))))
    refine wpQuiet_nil ?_
    rintro _ ⟨⟨w5,hD⟩,rfl⟩
    clear hsub hsc
    have HD:=Hd (aB HB0.out hD)
    have HX5:=Hd (aD hD HXB.out)
    have HY5:=Hd (aD hD HYB.out)
    clear hD
    clear x0 x1 x2 x3 y0 y1 lx ly
    go_wp2_with fail
    go_ret
    exact ⟨aP HR.out,HD.out⟩
end Go.Proofs.YtofihjoanjkdmaaGreat
