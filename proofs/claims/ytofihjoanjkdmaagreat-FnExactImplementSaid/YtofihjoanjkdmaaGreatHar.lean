/- The contracts of the laws' own helpers: copying, comparing, marking slices of integers; the tests of a range. -/
import Derived.Test.YtofihjoanjkdmaaGreatBase
namespace Go.Proofs.YtofihjoanjkdmaaGreat
set_option maxHeartbeats 400000
set_option maxRecDepth 100000
open Go.RowKit
theorem aM(n lo hi:Int)(w:World) :
  Calls Tryz.prog 93 #[.int .i64 n,.int .i64 lo,.int .i64 hi] w fun e w'=>e=.returned (.bool (inR n lo hi))/\w=w':=by
 unfold inR;by_cases h1:lo<=n
 ·have hd:decide (n≥lo)=true:=by simpa using h1
  go_enter Tryz.func93,Tryz.ntmps93;go_wp2;go_ret;exact⟨by simp[h1],rfl⟩
 have hd:decide (n≥lo)=false:=by simpa using h1
 go_enter Tryz.func93,Tryz.ntmps93;go_wp2;go_ret;exact⟨by simp,rfl⟩
theorem bV(n lo hi:Int)(w:World) :
  Calls Tryz.prog 83 #[.int .i64 n,.int .i64 lo,.int .i64 hi] w fun e w'=>e=.returned (.bool (inR n lo hi))/\w=w':=by
 unfold inR;by_cases h1:lo<=n
 ·have hd:decide (n≥lo)=true:=by simpa using h1
  go_enter Tryz.func83,Tryz.ntmps83;go_wp2;go_ret;exact⟨by simp[h1],rfl⟩
 have hd:decide (n≥lo)=false:=by simpa using h1
 go_enter Tryz.func83,Tryz.ntmps83;go_wp2;go_ret;exact⟨by simp,rfl⟩
theorem rX(d:Dev)(w:World) :
  Calls Tryz.prog 9 #[.agg (dv d)] w fun e w'=>e=.returned (.agg (dv d))/\Below w.heap.size w w':=by
 go_enter Tryz.func9,Tryz.ntmps9;go_wp2_with fail;exact bodyPost_ret (v := .agg (dv d)) (by simp[results,Tryz.results9,go_sem]) rfl ⟨rfl,aB (aB (aB (Below.refl _ _) _) _) _⟩
/-! ### toIntS -/
def l5(xs:List Int)(n k:Nat):Array Value:=((xs.take k++List.replicate (n-k) 0).map (Value.int .i64)).toArray
theorem GY{xs:List Int}{n k:Nat}(h:xs.length=n)(hk:k<=n):(l5 xs n k).size=n:=by
 simp[l5];omega
theorem Iw{xs:List Int}{n k:Nat}(h:xs.length=n)(hk:k<n):(l5 xs n k)[k]?=some (.int .i64 0):=by
 have h1:¬k<min k xs.length:=by omega
 have h2:k-min k xs.length<n-k:=by omega
 simp only[l5,List.getElem?_toArray,List.getElem?_map,List.getElem?_append,List.length_take,h1,if_false,List.getElem?_replicate,h2,if_true,Option.map_some]
theorem Iy{xs:List Int}{n k:Nat}(h:xs.length=n)(hk:k<n):(l5 xs n k).setIfInBounds k (.int .i64 (xs[k]?.getD 0))=l5 xs n (k+1):=by
 apply Array.ext';apply List.ext_getElem?;intro i;have g:k<xs.length:=by omega
 have e1:min k xs.length=k:=by omega
 have e2:min (k+1) xs.length=k+1:=by omega
 simp only[l5,List.setIfInBounds_toArray,List.getElem?_set,List.length_map,List.length_append,List.length_take,List.length_replicate,List.getElem?_map,List.getElem?_append,List.getElem?_take,List.getElem?_replicate,e1,e2];by_cases hi:k=i
 ·subst hi;have h3:k<k+(n-k):=by omega
  simp[g,h3]
 simp only[hi,if_false];by_cases h1:i<k
 ·have:i<k+1:=by omega
  simp[h1,this]
 have h2:¬i<k+1:=by omega
 simp only[h1,h2,if_false];have e3:(i-k<n-k)=(i-(k+1)<n-(k+1)):=propext (by omega);simp only[e3]
theorem GZ(xs:List Int)(n:Nat):l5 xs n 0=madeCells #[Value.int .i64 0] n:=by
 apply Array.ext';rw[toList_madeCells_one];simp[l5]
theorem Ga{xs:List Int}{n:Nat}(h:xs.length=n):(l5 xs n n).toList=xs.map (Value.int .i64):=by
 simp[l5,←h]
theorem Iz(A:Oh)(n c:Nat)(xs:List Int)(w:World)(h:bT w A n xs)(hn:n<=16777216) :
  Calls Tryz.prog 43 #[.slice A n c] w fun e w'=>∃G,e=.returned (.slice G n n)/\Own w.heap.size w' G n n xs/\Below w.heap.size w w':=by
 obtain⟨H,hi,q,u,z⟩:=info_parts iE;have D:=fun W=>dQ (P:=Tryz.prog) 26 3 H _ Tryz.underlying26 hi q .i64 .i64 n n (Nat.le_refl _) (by rw[z];omega) (by omega) W;rw[u,Nat.mul_one,show(Value.int .i64 0).cells=#[Value.int .i64 0] from rfl,←GZ xs n]at D;clear hi q u z;obtain⟨hx,hA⟩:=h;have j:=Hd hx;clear hx;go_enter Tryz.func43,Tryz.ntmps43;go_wp2
 go_loopw[4] (fun i wr=>∃k:Nat,k<=n/\i=.int .i64 k/\wr=w.alloc (.cells (l5 xs n k) 3)) (fun i _=>n-(intOf i).toNat)
 ·exact⟨0,Nat.zero_le _,rfl,rfl⟩
 obtain⟨k,hk,rfl,rfl⟩:=hrel;by_cases g:k<n
 ·obtain⟨b,o,rfl,hb,hc⟩:=hA (by omega);have I:=hc k g;have K:k<(l5 xs n k).size:=by rw[GY j.1 hk];exact g
  have hg:=Iw j.1 g;have J:=Hd (Iy j.1 g);clear hc;go_wp2;go_roundw
  ·exact⟨k+1,by omega,by go_num,by rw[J.1]⟩
  simp[intOf];omega
 have B:k=n:=by omega
 subst B;go_wp2;go_ret;exact⟨_,rfl,Own.made (cur:=l5 xs k k) (aG _ _) (Nat.le_refl _) (by simp[maxLen];omega) (Ga j.1) j.1,aB (Below.refl _ _) _⟩
/-! ### eqIntS -/
theorem D5{xs ys:List Int}{k:Nat}(h:xs.take k=ys.take k)(hx:k<xs.length)(g:k<ys.length)(he:xs[k]?.getD 0=ys[k]?.getD 0):xs.take (k+1)=ys.take (k+1):=by
 rw[List.take_succ_eq_append_getElem hx,List.take_succ_eq_append_getElem g,h];simp[hx,g]at he;rw[he]
theorem I1(A B:Oh)(n m c d:Nat)(xs ys:List Int)(w:World)(hA:bT w A n xs)(D:bT w B m ys)(hn:n<=1099511627776) :
  Calls Tryz.prog 53 #[.slice A n c,.slice B m d] w fun e w'=>e=.returned (.bool (decide (xs=ys)))/\Below w.heap.size w w':=by
 obtain⟨hx,hA⟩:=hA;obtain⟨Q,D⟩:=D;by_cases u:n=m
 ·subst u;obtain⟨G,H⟩:=hd2 hx Q;clear hx Q;go_enter Tryz.func53,Tryz.ntmps53;go_wp2
  go_loopw[5] (fun i wr=>∃k nq:Nat,k<=n/\i=.int .i64 k/\wr=w.drewN nq/\xs.take k=ys.take k) (fun i _=>n-(intOf i).toNat)
  ·exact⟨0,0,Nat.zero_le _,rfl,rfl,rfl⟩
  obtain⟨k,nq,hk,rfl,rfl,ht⟩:=hrel;have J:=Hd ht;clear ht;by_cases g:k<n
  ·obtain⟨b,o,rfl,hb,hc⟩:=hA (by omega);obtain⟨Y,Z,rfl,U,q⟩:=D (by omega);have R:=hc k g;have I:=q k g;obtain⟨V,W⟩:=ib (by omega:k<n);clear hc q;go_wp2
   go_quiet (fail)
   go_wp2
   ·have j:xs[k]?.getD 0≠ys[k]?.getD 0:=bne_iff_ne.1 (by assumption);go_ret
    exact⟨fH (by
     have:xs≠ys:=by rintro rfl;exact j rfl
     simp[this]),ae (ae (Below.refl _ _) _) _⟩
   have he:xs[k]?.getD 0=ys[k]?.getD 0:=by simpa using ‹(xs[k]?.getD 0 != ys[k]?.getD 0)=false›
   go_roundw
   ·exact⟨k+1,_,by omega,by go_num,rfl,D5 J.1 (by rw[G.1];exact g) (by rw[H.1];exact g) he⟩
   simp[intOf];omega
  have z:k=n:=by omega
  subst z;go_wp2;go_ret
  exact⟨fH (by
   have:=J.1;rw[List.take_of_length_le (by rw[G.1];exact Nat.le_refl _),List.take_of_length_le (by rw[H.1];exact Nat.le_refl _)]at this
   simp[this]),ae (Below.refl _ _) _⟩
 have j:((n:Int)==(m:Int))=false:=by simp;omega
 have K:((n:Int) != (m:Int))=true:=by simp;omega
 go_enter Tryz.func53,Tryz.ntmps53;go_wp2;go_ret
 exact⟨fH (by
  have:xs≠ys:=by rintro rfl;omega
  simp[this]),Below.refl _ _⟩
/-! ### markIntS, heldIntS -/
theorem Own.block{base:Nat}{w:World}{A:Oh}{n c:Nat}{xs:List Int}(h:Own base w A n c xs)(hn:0<n) :
  ∃g cur,A=some ⟨g,0,none⟩/\base<=g/\g<w.heap.size/\w.heap[g]?=some (.cells cur 3 (0,0))/\n<=cur.size/\n<=c/\c<=maxLen/\cur.size=c/\cur.toList.take n=xs.map (Value.int .i64):=by
 have hl:=h.lt
 rcases h.2 with⟨_,h0⟩|⟨g,cap,cur,B,hb,u,q,j,z,ht⟩
 ·omega
 injection B with hA _ hc
 subst hA hc;exact⟨g,cur,rfl,hb,(hl _ rfl).2,u,by omega,q,j,by omega,by simpa using ht⟩
theorem Own.stored{base:Nat}{w:World}{g n c k:Nat}{xs:List Int}(h:Own base w (some ⟨g,0,none⟩) n c xs)(hk:k<n)(x:Int) :
  Own base (w.setCell ⟨g,k,none⟩ (.int .i64 x)) (some ⟨g,0,none⟩) n c (xs.set k x):=by
 obtain⟨D,cur,hA,hb,B,z,hn,q,j,u,ht⟩:=h.block (by omega);injection hA with hA
 injection hA with hg
 subst hg;refine⟨by simp[h.len],.inr ⟨g,c,cur.setIfInBounds k (.int .i64 x),rfl,hb,by simp[World.setCell,Array.getElem?_modify,z],q,j,by simp[u],?_⟩⟩;simp only[Array.toList_setIfInBounds,Nat.mul_one,List.take_set,ht,List.map_set]
theorem Own.cellAt{base:Nat}{w:World}{g n c k:Nat}{xs:List Int}(h:Own base w (some ⟨g,0,none⟩) n c xs)(hk:k<n) :
  w.cell? ⟨g,k,none⟩=some (.int .i64 (xs[k]?.getD 0))/\w.frozen? ⟨g,k,none⟩=false:=by
 obtain⟨b,o,hA,_,hc⟩:=h.ints.2 (by omega);obtain⟨q,cur,hA',_,_,j,_⟩:=h.block (by omega);injection hA with hA
 injection hA with h1 h2
 subst h1 h2;injection hA' with hA'
 injection hA' with h1
 subst h1;have:=hc k hk;simp only[Nat.zero_add]at this;exact⟨this,by simp[World.frozen?,j]⟩
def xO(k:Int)(n:Nat):List Int:=(List.range n).map fun(i:Nat)=>k+(i:Int)
def vO(k0:Int)(xs:List Int)(k:Nat):List Int:=xO k0 k++xs.drop k
theorem I4{k0:Int}{xs:List Int}{k:Nat}(hk:k<xs.length):(vO k0 xs k).set k (k0+k)=vO k0 xs (k+1):=by
 have hl:(xO k0 k).length=k:=by simp[xO]
 rw[vO,List.set_append,if_neg (by omega),hl,Nat.sub_self,List.drop_eq_getElem_cons hk,List.set_cons_zero];simp[vO,xO,List.range_succ]
theorem rY(w:World)(r:Option Nat):w.grownBy w r:=⟨rfl,rfl,rfl,Nat.le_refl _,fun _ _ _=>rfl⟩
theorem BH{w w':World}{g:Nat}(h:w.grownBy w' (some g))(k:Nat)(v:Value):w.grownBy (w'.setCell ⟨g,k,none⟩ v) (some g) :=
 ⟨h.os,h.tape,h.output,by simpa [World.setCell]using h.size,fun i hi j=>(Below.heap_setCell w' ⟨g,k,none⟩ v i (by rintro rfl;exact j rfl)).trans (h.block i hi j)⟩
theorem D6(base:Nat)(A:Oh)(n c:Nat)(xs:List Int)(k0:Int)(w:World)(h:Own base w A n c xs)(I:0<=k0)(H:k0<=1152921504606846976)(hn:n<=1099511627776) :
  Calls Tryz.prog 63 #[.slice A n c,.int .i64 k0] w fun e w'=>e=.returned (.int .i64 (k0+n))/\Own base w' A n c (xO k0 n)/\w.grownBy w' (A.map (·.block)):=by
 by_cases h0:n=0
 ·subst h0;have hx:xs=[]:=List.eq_nil_of_length_eq_zero h.len;subst hx;go_enter Tryz.func63,Tryz.ntmps63;go_wp2_with fail;refine wp_loop_rounds 1 ?_;rw[rounds_succ]
  go_wp2;go_ret;exact⟨by simp,h,rY _ _⟩
 obtain⟨g,cur,rfl,_⟩:=h.block (by omega);have B:=Hd h;clear h;have q:xs.length=n:=B.1.len;have D:=Hd q;clear q;go_enter Tryz.func63,Tryz.ntmps63;go_wp2
 go_loopw[1,5] (fun v i wr=>∃k:Nat,k<=n/\i=.int .i64 k/\v=.int .i64 (k0+k)/\Own base wr (some ⟨g,0,none⟩) n c (vO k0 xs k)/\w.grownBy wr (some g)) (fun _ i _=>n-(intOf i).toNat)
 ·exact⟨0,Nat.zero_le _,rfl,by simp,by simpa [vO,xO]using B.1,rY _ _⟩
 obtain⟨k,hk,rfl,rfl,ho,hg⟩:=hrel;obtain⟨u,G⟩:=hd2 ho hg;clear ho hg;by_cases j:k<n
 ·obtain⟨hc,hf⟩:=u.1.cellAt j;go_wp2;go_roundw
  ·exact⟨k+1,by omega,by go_num,by go_num,by rw[←I4 (by rw[D.1];exact j)];exact u.1.stored j _,BH G.1 _ _⟩
  simp[intOf];omega
 have z:k=n:=by omega
 subst z;go_wp2;go_ret;refine⟨rfl,?_,G.1⟩;have:=u.1;rwa[vO,List.drop_of_length_le (by rw[D.1];exact Nat.le_refl _),List.append_nil]at this
theorem D7(A:Oh)(n c:Nat)(xs:List Int)(k0:Int)(w:World)(h:bT w A n xs)(hx:xs=xO k0 n)(H:0<=k0)(B:k0<=1152921504606846976)(hn:n<=1099511627776) :
  Calls Tryz.prog 77 #[.slice A n c,.int .i64 k0] w fun e w'=>e=.returned (.int .i64 (k0+n))/\Below w.heap.size w w':=by
 obtain⟨hl,hA⟩:=h;obtain⟨z,I⟩:=hd2 hx hl;clear hx hl;go_enter Tryz.func77,Tryz.ntmps77;go_wp2
 go_loopw[1,5] (fun v i wr=>∃k nq:Nat,k<=n/\i=.int .i64 k/\v=.int .i64 (k0+k)/\wr=w.drewN nq) (fun _ i _=>n-(intOf i).toNat)
 ·exact⟨0,0,Nat.zero_le _,rfl,by simp,rfl⟩
 obtain⟨k,nq,hk,rfl,rfl,rfl⟩:=hrel;by_cases g:k<n
 ·obtain⟨b,o,rfl,hb,hc⟩:=hA (by omega);have q:=hc k g;have j:xs[k]?.getD 0=k0+k:=by rw[z.1];simp[xO,g]
  rw[j]at q;clear j;obtain⟨D,G⟩:=ib (by omega:k<n);clear hc;go_wp2;go_roundw
  ·exact⟨k+1,_,by omega,by go_num,by go_num,rfl⟩
  simp[intOf];omega
 have u:k=n:=by omega
 subst u;go_wp2;go_ret;exact⟨rfl,ae (Below.refl _ _) _⟩
/-! ### equal by one list; rows that lie apart -/
theorem Gf(A B:Oh)(n m c d:Nat)(xs:List Int)(w:World)(hA:bT w A n xs)(g:bT w B m xs)(hn:n<=1099511627776) :
  Calls Tryz.prog 53 #[.slice A n c,.slice B m d] w fun e w'=>e=.returned (.bool true)/\Below w.heap.size w w' :=
 (I1 A B n m c d xs xs w hA g hn).mono fun e w' ⟨he,hb⟩=>⟨by rw[he];simp,hb⟩
def yR(A:Oh)(lo hi:Nat):Prop:=∀a,A=some a→lo<=a.block/\a.block<hi
theorem Own.lies{base:Nat}{w:World}{A:Oh}{n c:Nat}{xs:List Int}(h:Own base w A n c xs):yR A base w.heap.size:=h.lt
theorem Own.grown{base:Nat}{w w':World}{A q:Oh}{n c lo hi j g:Nat}{xs:List Int}(h:Own base w A n c xs)(hg:w.grownBy w' (q.map (·.block)))(l:yR A lo hi)(u:yR q j g)(B:hi<=j∨g<=lo) :
  Own base w' A n c xs :=
 fU h fun a e=>hg.block _ (h.lt a e).2 (by
  cases q with
  | none=>simp
  | some z =>
   have h1:=l a e;have h2:=u z rfl;simp only[Option.map_some,ne_eq,Option.some.injEq]
   omega)
theorem bT.grown{w w':World}{A q:Oh}{n lo hi u:Nat}{xs:List Int}(h:bT w A n xs)(hg:w.grownBy w' (q.map (·.block)))(l:yR A 0 hi)(z:yR q lo u)(D:hi<=lo):bT w' A n xs:=by
 refine⟨h.1,fun hn=>?_⟩;obtain⟨b,o,e,g,hc⟩:=h.2 hn;refine⟨b,o,e,Nat.lt_of_lt_of_le g hg.size,fun j hj=>?_⟩;rw[←hc j hj];refine World.cell?_of_block (a:=⟨b,o+j,none⟩) (hg.block b g ?_)
 cases q with
 | none=>simp
 | some B =>
  have h1:=l _ e;have h2:=z B rfl;simp only[Option.map_some,ne_eq,Option.some.injEq];simp only at h1;omega
theorem bT.lies{w:World}{A:Oh}{n:Nat}{xs:List Int}(h:bT w A n xs)(hn:0<n):yR A 0 w.heap.size:=by
 obtain⟨b,o,rfl,j,_⟩:=h.2 hn;rintro a g;injection g with g
 subst g;exact⟨Nat.zero_le _,j⟩
theorem Own.newAt{w:World}{base g:Nat}(hg:w.heap.size=g)(h:base<=g):Own base (w.alloc (.cells #[] 3)) (some ⟨g,0,none⟩) 0 0 []:=by
 subst hg;exact⟨rfl,.inr ⟨w.heap.size,0,#[],rfl,h,aG _ _,Nat.le_refl _,Nat.zero_le _,rfl,rfl⟩⟩
theorem bT.drewd{w:World}{A:Oh}{n:Nat}{xs:List Int}(h:bT w A n xs):bT w.drew A n xs:=h
theorem Own.drewd{base:Nat}{w:World}{A:Oh}{n c:Nat}{xs:List Int}(h:Own base w A n c xs):Own base w.drew A n c xs:=h
theorem Own.rd{base:Nat}{w:World}{A:Oh}{n c:Nat}{xs:List Int}(h:Own base w A n c xs):bT w A n xs:=h.ints
/-! ### append of one integer to a row of the call's own -/
theorem fu(A:Oh)(n c:Nat):(Value.slice A n c).ownBlock=A.map (·.block):=by cases A <;> rfl
theorem KS(a:Addr):a.add 0=a:=by simp[Addr.add]
theorem fP{ops:Array Oper}{rest:List Oper}{o:Oper}{a:Act}{Q:Exit→Act→World→Prop}{w W:World}(D:o.guard=none)(s x:Operand)
  (ho:o.op=.call { callee := .builtin .append,args:=#[s,x],argTypes:=#[26,26] })
  (base:Nat) (A:Oh) (n c:Nat) (xs:List Int) (v:Int) (hs:a.eval s=.slice A n c) (q:Own base w A n c xs) (hx:a.eval x=.slice (some ⟨w.heap.size,0,none⟩) 1 1)
  (hn:n<=1099511627776) (z:base<=w.heap.size) (U:Below base W w)
  (h:∀g cap w',Own base w' (some ⟨g,0,none⟩) (n+1) cap (xs++[v])→Below base W w'→(w.alloc (.cells #[.int .i64 v] 3)).grownBy w' (A.map (·.block))→(A.map (·.block)=some g∨g=w.heap.size+1) →
   wpList Tryz.prog ops Q rest (a.put o.dst (.slice (some ⟨g,0,none⟩) (n+1) cap)) w'):wpList Tryz.prog ops Q (o::rest) a (w.alloc (.cells #[.int .i64 v] 3)):=by
 obtain⟨J,hi,G,H,I⟩:=info_parts iE;have hl:=q.lt
 refine wpList_append_lies (w.alloc (.cells #[.int .i64 v] 3)) D s x 26 ho base 3 J (.int .i64 0) 1 8 Tryz.underlying26 hi G H I rfl (by omega) (.slice A n c) n (xs.map (Value.int .i64)) hs
  (fU q fun a K=>Below.heap_alloc _ _ _ (hl a K).2) ⟨w.heap.size,0,none⟩ 1 1 [.int .i64 v] hx rfl
  (fun j u B=>?_) (fun u B=>?_) (by omega) (by unfold maxLen;omega) (by omega) (by simp;omega) (w.heap.size+1) (by simp) ?_
 ·rcases j with _|j
  ·simp at B;subst B;rw[KS];unfold World.cell?;rw[aG];rfl
  simp at B
 ·simp at B;subst B;rfl
 intro g cap w' h1 h2 h3 _;rw[fu]at h2 h3;refine h g cap w' (by simpa [Own]using h1) ?_ h2 h3;refine(U.alloc z _).grown h2 (by simp;omega) ?_;intro k hk
 cases A with
 | none=>cases hk
 | some R =>
  injection hk with hk
  subst hk;exact(hl R rfl).1
theorem Own.new0{w:World}{base:Nat}(h:base<=w.heap.size):Own base (w.alloc (.cells #[] 3)) (some ⟨w.heap.size,0,none⟩) 0 0 [] :=
 ⟨rfl,.inr ⟨w.heap.size,0,#[],rfl,h,aG _ _,Nat.le_refl _,Nat.zero_le _,rfl,rfl⟩⟩
structure Chg(lo hi:Nat)(w w':World):Prop where
 os:w'.os=w.os
 tape:w'.tape=w.tape
 output:w'.output=w.output
 size:w.heap.size<=w'.heap.size
 block:∀k,k<w.heap.size→(k<lo∨hi<=k)→w'.heap[k]?=w.heap[k]?
theorem Chg.refl(lo hi:Nat)(w:World):Chg lo hi w w:=⟨rfl,rfl,rfl,Nat.le_refl _,fun _ _ _=>rfl⟩
theorem Chg.trans{lo hi:Nat}{a b c:World}(h:Chg lo hi a b)(k:Chg lo hi b c):Chg lo hi a c :=
 ⟨k.os.trans h.os,k.tape.trans h.tape,k.output.trans h.output,Nat.le_trans h.size k.size,fun i g j=>(k.block i (Nat.lt_of_lt_of_le g h.size) j).trans (h.block i g j)⟩
theorem xP{a w w':World}{lo hi:Nat}(h:Below a.heap.size a w)(hg:Chg lo hi w w')(g:a.heap.size<=lo):Below a.heap.size a w' :=
 h.trans ⟨hg.os,hg.tape,hg.output,hg.size,fun k hk=>hg.block k (Nat.lt_of_lt_of_le hk h.size) (.inl (by omega))⟩
end Go.Proofs.YtofihjoanjkdmaaGreat
