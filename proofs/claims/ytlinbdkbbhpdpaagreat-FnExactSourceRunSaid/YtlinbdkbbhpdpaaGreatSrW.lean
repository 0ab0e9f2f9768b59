/- Flat modules: values of expressions, cycles, in plain terms. The order of evaluation: the list of what is still to come, and flags of signals, in plain terms. -/
import Derived.Test.YtlinbdkbbhpdpaaGreatBit
import Derived.Test.YtlinbdkbbhpdpaaGreatSrQ
namespace Go.Proofs.YtlinbdkbbhpdpaaGreat
set_option maxRecDepth 100000
open Go.RowKit

/-- The value of an expression modulo M. -/
def evT (v:List Int) (M:Int):Tr→Int
 | .lf o=>if o.kind=0 then o.a % M else if o.kind=2 then atI v o.a % M else (atI v o.a / 2 ^ o.b.toNat % 2) % M
 | .un _ a=>(-1 - evT v M a) % M
 | .bi o a b=>if o.kind=5 then bits .and .i64 (evT v M a) (evT v M b) else if o.kind=6 then bits .or .i64 (evT v M a) (evT v M b) else if o.kind=7 then bits .xor .i64 (evT v M a) (evT v M b)
   else if o.kind=8 then (evT v M a+evT v M b) % M else if o.kind=9 then (evT v M a - evT v M b) % M else if o.kind=10 then (if evT v M a=evT v M b then 1 else 0) else (if evT v M a<evT v M b then 1 else 0)
 | .te _ a b c=>if evT v M a≠0 then evT v M b else evT v M c
/-- 2 to the width. -/
def mod2 (w:Int):Int:=2 ^ w.toNat
theorem andM (n:Int) (w:Nat) (hw:w≤62):bits .and .i64 n (2 ^ w - 1)=n % 2 ^ w:=by
 have hm:(BitVec.ofInt 64 ((2:Int) ^ w - 1)).toNat=2 ^ w - 1:=by
  have h1:(2:Int) ^ w - 1=((2 ^ w - 1:Nat):Int):=by
   have:=Nat.one_le_two_pow (n:=w)
   rw [Int.natCast_sub this,Int.natCast_pow];rfl
  have h2:2 ^ w - 1<2 ^ 64:=by
   have:=Nat.pow_le_pow_right (n:=2) (by omega) (show w≤64 by omega)
   have:=Nat.one_le_two_pow (n:=w)
   omega
  rw [h1,BitVec.toNat_ofInt]
  omega
 have key:(BitVec.ofInt 64 n &&& BitVec.ofInt 64 ((2:Int) ^ w - 1)).toNat=(n % ((2 ^ 64:Nat):Int)).toNat % 2 ^ w:=by
  rw [BitVec.toNat_and,BitVec.toNat_ofInt,hm,Nat.and_two_pow_sub_one_eq_mod]
 show IntKind.i64.wrap ((BitVec.ofInt 64 n &&& BitVec.ofInt 64 ((2:Int) ^ w - 1)).toNat:Nat)=n % 2 ^ w
 have hlt:(n % ((2 ^ 64:Nat):Int)).toNat % 2 ^ w<2 ^ 62:=Nat.lt_of_lt_of_le (Nat.mod_lt _ (Nat.two_pow_pos w)) (Nat.pow_le_pow_right (by omega) hw)
 rw [key,IntKind.wrap_i64]
 have e:((n % ((2 ^ 64:Nat):Int)).toNat % 2 ^ w:Nat)=n % 2 ^ w:=by
  have h64:((2 ^ 64:Nat):Int)=2 ^ w * 2 ^ (64 - w):=by
   rw [←Int.pow_add,show w+(64 - w)=64 by omega];rfl
  have hnn:0≤n % ((2 ^ 64:Nat):Int):=Int.emod_nonneg _ (by decide)
  have hw2:((2 ^ w:Nat):Int)=2 ^ w:=by rw [Int.natCast_pow];rfl
  rw [Int.natCast_emod,Int.toNat_of_nonneg hnn,h64,hw2]
  exact Int.emod_emod_of_dvd _ (Int.dvd_mul_right _ _)
 omega
theorem mod2_pos (w:Int):0<mod2 w:=Int.pow_pos (by omega)
theorem bits_nat {f:Nat→Nat→Nat} {op:BinOp} (hop:∀a b:Nat,a<9223372036854775808→b<9223372036854775808→bits op .i64 (a:Int) (b:Int)=((f a b:Nat):Int)) {w:Nat} (hw:w≤62) (hf:∀a b:Nat,a<2 ^ w→b<2 ^ w→f a b<2 ^ w) {x y:Int} (hx:0≤x∧x<2 ^ w) (hy:0≤y∧y<2 ^ w):0≤bits op .i64 x y∧bits op .i64 x y<2 ^ w:=by
 obtain ⟨a,rfl⟩:=Int.eq_ofNat_of_zero_le hx.1
 obtain ⟨b,rfl⟩:=Int.eq_ofNat_of_zero_le hy.1
 have h62:2 ^ w≤2 ^ 62:=Nat.pow_le_pow_right (by omega) hw
 have e:((2 ^ w:Nat):Int)=2 ^ w:=by rw [Int.natCast_pow];rfl
 have ha:a<2 ^ w:=by have:=hx.2;rw [←e] at this;omega
 have hb:b<2 ^ w:=by have:=hy.2;rw [←e] at this;omega
 have:=hf a b ha hb
 rw [hop a b (by omega) (by omega),←e]
 omega
theorem and_in {w:Nat} (hw:w≤62) {x y:Int} (hx:0≤x∧x<2 ^ w) (hy:0≤y∧y<2 ^ w):0≤bits .and .i64 x y∧bits .and .i64 x y<2 ^ w:=bits_nat i64_and_nat hw (fun _ _ _ hb=>Nat.and_lt_two_pow _ hb) hx hy
theorem or_in {w:Nat} (hw:w≤62) {x y:Int} (hx:0≤x∧x<2 ^ w) (hy:0≤y∧y<2 ^ w):0≤bits .or .i64 x y∧bits .or .i64 x y<2 ^ w:=bits_nat i64_or_nat hw (fun _ _ ha hb=>Nat.or_lt_two_pow ha hb) hx hy
theorem xor_in {w:Nat} (hw:w≤62) {x y:Int} (hx:0≤x∧x<2 ^ w) (hy:0≤y∧y<2 ^ w):0≤bits .xor .i64 x y∧bits .xor .i64 x y<2 ^ w:=bits_nat i64_xor_nat hw (fun _ _ ha hb=>Nat.xor_lt_two_pow ha hb) hx hy
theorem mod_in (x:Int) (w:Int):0≤x % mod2 w∧x % mod2 w<mod2 w:=⟨Int.emod_nonneg _ (by have:=mod2_pos w;omega),Int.emod_lt_of_pos _ (mod2_pos w)⟩
theorem mod2_two {w:Int} (h:1≤w):2≤mod2 w:=by
 unfold mod2
 obtain ⟨k,hk⟩:∃k:Nat,w.toNat=k+1:=⟨w.toNat - 1,by omega⟩
 rw [hk,Int.pow_succ]
 have:(0:Int)<2 ^ k:=Int.pow_pos (by omega)
 omega
/-- Values of expressions are below the modulus. -/
theorem evT_in (v:List Int) {w:Int} (h1:1≤w) (h4:w≤4):∀t:Tr,0≤evT v (mod2 w) t∧evT v (mod2 w) t<mod2 w
 | .lf o=>by
  rw [evT]
  split
  ·exact mod_in _ _
  ·split
   ·exact mod_in _ _
   ·exact mod_in _ _
 | .un _ a=>by rw [evT];exact mod_in _ _
 | .bi o a b=>by
  have ha:=evT_in v h1 h4 a
  have hb:=evT_in v h1 h4 b
  have hw:w.toNat≤62:=by omega
  have h2:=mod2_two h1
  rw [evT]
  split
  ·exact and_in hw ha hb
  ·split
   ·exact or_in hw ha hb
   ·split
    ·exact xor_in hw ha hb
    ·split
     ·exact mod_in _ _
     ·split
      ·exact mod_in _ _
      ·split
       ·split <;> omega
       ·split <;> omega
 | .te _ a b c=>by
  have hb:=evT_in v h1 h4 b
  have hc:=evT_in v h1 h4 c
  rw [evT]
  split
  ·exact hb
  ·exact hc
open Classical in
noncomputable def trOf (ops:List OpT) (n:Int):Tr:=if h:∃t:Tr,t.pre=ops∧t.Ok n then Classical.choose h else .lf OpT.zero
theorem trOf_spec {ops:List OpT} {n:Int} (h:OpsFit ops n):(trOf ops n).pre=ops∧(trOf ops n).Ok n:=by
 unfold trOf
 rw [dif_pos h.tree]
 exact Classical.choose_spec h.tree
/-- The value of an assignment. -/
noncomputable def evA (m:MdT) (v:List Int) (a:AsT):Int:=evT v (mod2 (sgI m a.target).width) (trOf a.ops m.sigs.length)
/-- The inputs among the first signals have their values. -/
def inTo (sg:List SgT) (ins v:List Int):Nat→List Int
 | 0=>v
 | k+1=>if (sgK sg k).kind=0 then (inTo sg ins v k).set k ((ins[(pwTo sg 0 k).length]?.getD 0) % mod2 (sgK sg k).width) else inTo sg ins v k
noncomputable def ordTo (m:MdT):List Int→List Nat→List Int
 | v,[]=>v
 | v,i :: r=>ordTo m (v.set (asK m i).target.toNat (evA m v (asK m i))) r
/-- The values of all signals in a cycle. -/
noncomputable def sigVals (m:MdT) (o:List Nat) (vals ins:List Int):List Int:=ordTo m (inTo m.sigs ins vals m.sigs.length) o
def outTo (sg:List SgT) (v:List Int):Nat→List Int
 | 0=>[]
 | k+1=>outTo sg v k++if (sgK sg k).kind=1 then [v[k]?.getD 0] else []
def outVals (m:MdT) (v:List Int):List Int:=outTo m.sigs v m.sigs.length
noncomputable def regTo (m:MdT) (v:List Int):Nat→List Int
 | 0=>List.replicate m.sigs.length 0
 | k+1=>if (sgI m (asK m k).target).kind=3 then (regTo m v k).set (asK m k).target.toNat (evA m v (asK m k)) else regTo m v k
def wdAt (m:MdT) (v:List Int) (k:Nat):Nat:=4 * k+(atI v (mmK m k).addr).toNat
noncomputable def memV (m:MdT) (words v:List Int):Nat→List Int
 | 0=>regTo m v m.asgs.length
 | k+1=>(memV m words v k).set (mmK m k).out.toNat (words[wdAt m v k]?.getD 0)
def memWd (m:MdT) (words v:List Int):Nat→List Int
 | 0=>words
 | k+1=>if atI v (mmK m k).write=1 then (memWd m words v k).set (wdAt m v k) (atI v (mmK m k).data) else memWd m words v k
noncomputable def nxtV (m:MdT) (words v:List Int):List Int:=memV m words v m.mems.length
def nxtW (m:MdT) (words v:List Int):List Int:=memWd m words v m.mems.length
def staV (m:MdT):List Int:=m.sigs.map fun s=>s.init % mod2 s.width
def staW (m:MdT):List Int:=List.replicate (4 * m.mems.length) 0
/-- The state behind the first k cycles. -/
noncomputable def stTo (m:MdT) (o:List Nat) (ins:List (List Int)):Nat→List Int × List Int
 | 0=>(staV m,staW m)
 | k+1=>(nxtV m (stTo m o ins k).2 (sigVals m o (stTo m o ins k).1 (ins[k]?.getD [])),nxtW m (stTo m o ins k).2 (sigVals m o (stTo m o ins k).1 (ins[k]?.getD [])))
noncomputable def cycV (m:MdT) (o:List Nat) (ins:List (List Int)) (k:Nat):List Int:=sigVals m o (stTo m o ins k).1 (ins[k]?.getD [])
noncomputable def runs (m:MdT) (o:List Nat) (ins:List (List Int)):List (List Int):=(List.range ins.length).map fun k=>outVals m (cycV m o ins k)
/-- All values are in the ranges of their signals. -/
def ValFit (m:MdT) (v:List Int):Prop:=v.length=m.sigs.length∧∀i,i<m.sigs.length→0≤v[i]?.getD 0∧v[i]?.getD 0<mod2 (sgK m.sigs i).width
def Stored (m:MdT) (i:Nat):Prop:=(sgK m.sigs i).kind=3∨∃j,j<m.mems.length∧(mmK m j).out=(i:Int)
/-- A state is valid. -/
structure StFt (m:MdT) (vals words:List Int):Prop where
 val:ValFit m vals
 zer:∀i,i<m.sigs.length→¬Stored m i→vals[i]?.getD 0=0
 len:words.length=4 * m.mems.length
 wrd:∀i,i<words.length→0≤words[i]?.getD 0∧words[i]?.getD 0<mod2 (sgI m (mmK m (i / 4)).data).width
section
variable {m:MdT}
theorem FlatFit.sgf (h:FlatFit m) {s:Nat} (hs:s<m.sigs.length):SgFit (sgK m.sigs s):=h.ds.one.sig s hs
theorem FlatFit.wd (h:FlatFit m) {s:Nat} (hs:s<m.sigs.length):1≤(sgK m.sigs s).width∧(sgK m.sigs s).width≤4:=by
 have h1:=(h.sgf hs).1.2
 have h2:=h.wid s hs
 omega
theorem FlatFit.asf (h:FlatFit m) {i:Nat} (hi:i<m.asgs.length):AsFit m (asK m i):=h.ds.one.asg i hi
theorem FlatFit.mmf (h:FlatFit m) {i:Nat} (hi:i<m.mems.length):MmFit m (mmK m i):=h.ds.one.mem i hi
theorem FlatFit.no_ins (h:FlatFit m):m.insts.length=0:=by
 obtain ⟨o,ho⟩:=h.ord
 exact (evalOrd_fit ho).1
theorem FlatFit.cnt (h:FlatFit m):MdCnt m:=h.ds.one.cnt.2 0 (by simp)
theorem getD_set (l:List Int) (i j:Nat) (x:Int):(l.set i x)[j]?.getD 0=if i=j∧j<l.length then x else l[j]?.getD 0:=by
 rw [List.getElem?_set]
 by_cases h:i=j
 ·subst h
  by_cases h2:i<l.length
  ·simp [h2]
  ·simp [h2]
 ·simp [h]
theorem ValFit.set {v:List Int} (h:ValFit m v) {i:Nat} {x:Int} (hx:0≤x∧x<mod2 (sgK m.sigs i).width):ValFit m (v.set i x):=by
 refine ⟨by rw [List.length_set,h.1],fun j hj=>?_⟩
 rw [getD_set]
 split
 ·rename_i h1
  rw [←h1.1]
  exact hx
 ·exact h.2 j hj
theorem evA_in (h:FlatFit m) {i:Nat} (hi:i<m.asgs.length) (v:List Int):0≤evA m v (asK m i)∧evA m v (asK m i)<mod2 (sgK m.sigs (asK m i).target.toNat).width:=by
 have h1:=(h.asf hi).1.1
 have h2:=h.wd (s:=(asK m i).target.toNat) (by have:=h1.1;have:=h1.2;omega)
 exact evT_in v h2.1 h2.2 _
theorem inTo_fit {ins v:List Int} (hv:ValFit m v):∀k,ValFit m (inTo m.sigs ins v k)
 | 0=>hv
 | k+1=>by
  rw [inTo]
  split
  ·exact (inTo_fit hv k).set (mod_in _ _)
  ·exact inTo_fit hv k
theorem ordTo_fit (h:FlatFit m):∀{o:List Nat} {v:List Int},ValFit m v→(∀i∈o,i<m.asgs.length)→ValFit m (ordTo m v o)
 | [],v,hv,_=>hv
 | i :: r,v,hv,ho=>by
  rw [ordTo]
  exact ordTo_fit h (hv.set (evA_in h (ho i (by simp)) v)) fun j hj=>ho j (by simp [hj])
theorem sigVals_fit (h:FlatFit m) {o:List Nat} (ho:∀i∈o,i<m.asgs.length) {v ins:List Int} (hv:ValFit m v):ValFit m (sigVals m o v ins):=ordTo_fit h (inTo_fit hv _) ho
theorem evRun_lt:∀{f:Nat} {todo out o:List Nat},evRun m f todo out=some o→∀i∈o,i∈out∨i∈todo
 | 0,todo,out,o,h,i,hi=>by
  rw [evRun] at h
  split at h
  ·injection h with h;subst h;exact .inl hi
  ·cases h
 | f+1,todo,out,o,h,i,hi=>by
  rw [evRun] at h
  split at h
  ·injection h with h;subst h;exact .inl hi
  ·split at h
   ·cases h
   ·rename_i k hk
    rcases evRun_lt h i hi with h1|h1
    ·rcases List.mem_append.1 h1 with h1|h1
     ·exact .inl h1
     ·rw [List.mem_singleton] at h1
      subst h1
      right
      have hlt:k<todo.length:=(List.findIdx?_eq_some_iff_getElem.1 hk).1
      rw [List.getElem?_eq_getElem hlt]
      exact List.getElem_mem hlt
    ·exact .inr (List.mem_of_mem_eraseIdx h1)
theorem evalOrd_lt {o:List Nat} (h:evalOrd m=some o):∀i∈o,i<m.asgs.length:=by
 intro i hi
 unfold evalOrd at h
 split at h
 ·rcases evRun_lt h i hi with h1|h1
  ·simp at h1
  ·exact (todoTo_lt h1).1
 ·cases h
theorem staV_fit:ValFit m (staV m):=by
 refine ⟨by simp [staV],fun i hi=>?_⟩
 have e:(staV m)[i]?.getD 0=(sgK m.sigs i).init % mod2 (sgK m.sigs i).width:=by
  unfold staV sgK
  rw [List.getElem?_map,List.getElem?_eq_getElem hi]
  rfl
 rw [e]
 exact mod_in _ _
theorem staV_at {i:Nat} (hi:i<m.sigs.length):(staV m)[i]?.getD 0=(sgK m.sigs i).init % mod2 (sgK m.sigs i).width:=by
 unfold staV sgK
 rw [List.getElem?_map,List.getElem?_eq_getElem hi]
 rfl
theorem sta_fit (h:FlatFit m):StFt m (staV m) (staW m):=by
 refine ⟨staV_fit,fun i hi hn=>?_,by simp [staW],fun i hi=>?_⟩
 ·rw [staV_at hi]
  rcases (h.sgf hi).2 with h0|h0
  ·rw [h0];simp
  ·exact absurd (.inl h0.1) hn
 ·have e:(staW m)[i]?.getD 0=0:=by
   unfold staW
   rw [List.getElem?_replicate]
   split <;> rfl
  rw [e]
  exact ⟨Int.le_refl _,mod2_pos _⟩
theorem regTo_fit (h:FlatFit m) (v:List Int):∀k,k≤m.asgs.length→ValFit m (regTo m v k)∧∀i,i<m.sigs.length→¬Stored m i→(regTo m v k)[i]?.getD 0=0
 | 0,_=>by
  have e:∀i:Nat,(List.replicate m.sigs.length (0:Int))[i]?.getD 0=0:=fun i=>by
   rw [List.getElem?_replicate]
   split <;> rfl
  exact ⟨⟨by simp [regTo],fun i hi=>by rw [regTo,e];exact ⟨Int.le_refl _,mod2_pos _⟩⟩,fun i _ _=>by rw [regTo,e]⟩
 | k+1,hk=>by
  obtain ⟨h1,h2⟩:=regTo_fit h v k (by omega)
  rw [regTo]
  split
  ·rename_i h3
   refine ⟨h1.set (evA_in h (by omega) v),fun i hi hn=>?_⟩
   rw [getD_set]
   split
   ·rename_i h4
    rw [←h4.1] at hn
    exact absurd (.inl h3) hn
   ·exact h2 i hi hn
  ·exact ⟨h1,h2⟩
theorem addr_in (h:FlatFit m) {v:List Int} (hv:ValFit m v) {k:Nat} (hk:k<m.mems.length):0≤atI v (mmK m k).addr∧atI v (mmK m k).addr<4:=by
 have h1:=(h.mmf hk).1
 have h2:=hv.2 (mmK m k).addr.toNat (by have:=h1.1;have:=h1.2;omega)
 have h3:=(h.mem k hk).1.1
 unfold sgI at h3
 rw [h3] at h2
 exact h2
theorem wdAt_lt (h:FlatFit m) {v:List Int} (hv:ValFit m v) {k:Nat} (hk:k<m.mems.length):wdAt m v k<4 * m.mems.length∧wdAt m v k / 4=k:=by
 have:=addr_in h hv hk
 unfold wdAt
 omega
theorem out_nn (h:FlatFit m) {k:Nat} (hk:k<m.mems.length):0≤(mmK m k).out∧(mmK m k).out<m.sigs.length:=(h.mmf hk).2.2.2.1
theorem memV_fit (h:FlatFit m) {vals words v:List Int} (hs:StFt m vals words) (hv:ValFit m v):∀k,k≤m.mems.length→ValFit m (memV m words v k)∧∀i,i<m.sigs.length→¬Stored m i→(memV m words v k)[i]?.getD 0=0
 | 0,_=>regTo_fit h v _ (Nat.le_refl _)
 | k+1,hk=>by
  obtain ⟨h1,h2⟩:=memV_fit h hs hv k (by omega)
  have h3:=wdAt_lt h hv (k:=k) (by omega)
  have h4:=hs.wrd (wdAt m v k) (by rw [hs.len];exact h3.1)
  rw [h3.2,(h.mem k (by omega)).2] at h4
  have h5:=out_nn h (k:=k) (by omega)
  rw [memV]
  refine ⟨h1.set h4,fun i hi hn=>?_⟩
  rw [getD_set]
  split
  ·rename_i h6
   exact absurd (.inr ⟨k,by omega,by omega⟩) hn
  ·exact h2 i hi hn
theorem memWd_fit (h:FlatFit m) {vals words v:List Int} (hs:StFt m vals words) (hv:ValFit m v):∀k,k≤m.mems.length→(memWd m words v k).length=words.length∧∀i,i<words.length→0≤(memWd m words v k)[i]?.getD 0∧(memWd m words v k)[i]?.getD 0<mod2 (sgI m (mmK m (i / 4)).data).width
 | 0,_=>⟨rfl,hs.wrd⟩
 | k+1,hk=>by
  obtain ⟨h1,h2⟩:=memWd_fit h hs hv k (by omega)
  have h3:=wdAt_lt h hv (k:=k) (by omega)
  have hd:=(h.mmf (i:=k) (by omega)).2.1
  have h4:=hv.2 (mmK m k).data.toNat (by have:=hd.1;have:=hd.2;omega)
  rw [memWd]
  split
  ·refine ⟨by rw [List.length_set,h1],fun i hi=>?_⟩
   rw [getD_set]
   split
   ·rename_i h5
    rw [←h5.1,h3.2]
    exact h4
   ·exact h2 i hi
  ·exact ⟨h1,h2⟩
/-- States stay valid. -/
theorem nxt_fit (h:FlatFit m) {vals words v:List Int} (hs:StFt m vals words) (hv:ValFit m v):StFt m (nxtV m words v) (nxtW m words v):=by
 obtain ⟨h1,h2⟩:=memV_fit h hs hv m.mems.length (Nat.le_refl _)
 obtain ⟨h3,h4⟩:=memWd_fit h hs hv m.mems.length (Nat.le_refl _)
 exact ⟨h1,h2,by unfold nxtW;rw [h3,hs.len],fun i hi=>h4 i (by unfold nxtW at hi;rw [h3] at hi;exact hi)⟩
theorem stTo_fit (h:FlatFit m) {o:List Nat} (ho:∀i∈o,i<m.asgs.length) (ins:List (List Int)):∀k,StFt m (stTo m o ins k).1 (stTo m o ins k).2
 | 0=>sta_fit h
 | k+1=>nxt_fit h (stTo_fit h ho ins k) (sigVals_fit h ho (stTo_fit h ho ins k).val)
theorem cycV_fit (h:FlatFit m) {o:List Nat} (ho:∀i∈o,i<m.asgs.length) (ins:List (List Int)) (k:Nat):ValFit m (cycV m o ins k):=sigVals_fit h ho (stTo_fit h ho ins k).val
end
end Go.Proofs.YtlinbdkbbhpdpaaGreat

namespace Go.Proofs.YtlinbdkbbhpdpaaGreat
set_option maxRecDepth 100000
open Go.RowKit

theorem count_two {l:List Int} {x:Int}:∀{i j:Nat},i<j→l[i]?=some x→l[j]?=some x→2≤l.count x:=by
 induction l with
 | nil=>intro i j _ h;simp at h
 | cons y l ih =>
  intro i j hij h1 h2
  rw [List.count_cons]
  rcases i with _|i
  ·simp at h1
   subst h1
   obtain ⟨j,rfl⟩:∃k,j=k+1:=⟨j - 1,by omega⟩
   rw [List.getElem?_cons_succ] at h2
   have:=List.count_pos_iff.2 (List.mem_of_getElem? h2)
   rw [beq_self_eq_true,if_pos rfl]
   omega
  ·obtain ⟨j,rfl⟩:∃k,j=k+1:=⟨j - 1,by omega⟩
   rw [List.getElem?_cons_succ] at h1 h2
   have:=ih (show i<j by omega) h1 h2
   omega
theorem count_inj {l:List Int} {x:Int} (h:l.count x≤1) {i j:Nat} (hi:l[i]?=some x) (hj:l[j]?=some x):i=j:=by
 rcases Nat.lt_trichotomy i j with h1|h1|h1
 ·have:=count_two h1 hi hj;omega
 ·exact h1
 ·have:=count_two h1 hj hi;omega
section
variable {m:MdT}
theorem as_fit (h:DsFit [m]) {i:Nat} (hi:i<m.asgs.length):AsFit m (asK m i):=h.one.asg i hi
theorem tgt_in (h:DsFit [m]) {i:Nat} (hi:i<m.asgs.length):0≤(asK m i).target∧(asK m i).target<m.sigs.length:=(as_fit h hi).1.1
/-- No two assignments have one target. -/
theorem tgt_inj (h:DsFit [m]) {i j:Nat} (hi:i<m.asgs.length) (hj:j<m.asgs.length) (e:(asK m i).target=(asK m j).target):i=j:=by
 have h1:=tgt_in h hi
 have h2:=(as_fit h hi).1.2
 have h3:=h.one.once (asK m i).target.toNat (by show _<m.sigs.length;omega) h2
 have e1:(((asK m i).target.toNat:Nat):Int)=(asK m i).target:=by omega
 rw [e1] at h3
 have h4:(m.asgs.map AsT.target).count (asK m i).target≤1:=by
  have:(drvs [m] m).count (asK m i).target=1:=h3
  unfold drvs at this
  rw [List.count_append,List.count_append] at this
  omega
 have g:∀k,k<m.asgs.length→(m.asgs.map AsT.target)[k]?=some (asK m k).target:=fun k hk=>by
  unfold asK
  rw [List.getElem?_map,List.getElem?_eq_getElem hk]
  rfl
 exact count_inj h4 (g i hi) ((g j hj).trans (by rw [e]))
/-- A signal is the target of an assignment that is still to come. -/
def openB (m:MdT) (todo:List Nat) (s:Int):Bool:=todo.any fun j=>(asK m j).target==s
theorem openB_iff {todo:List Nat} {s:Int}:openB m todo s=true↔∃j,j∈todo∧(asK m j).target=s:=by
 unfold openB
 simp
theorem openB_mem (h:DsFit [m]) {todo:List Nat} (ht:∀j∈todo,j<m.asgs.length) {i:Nat} (hi:i<m.asgs.length):openB m todo (asK m i).target=true↔i∈todo:=by
 rw [openB_iff]
 constructor
 ·rintro ⟨j,hj,e⟩
  rwa [←tgt_inj h (ht j hj) hi e]
 ·exact fun hm=>⟨i,hm,rfl⟩
theorem rdsB_iff {ops:List OpT} {s:Int}:rdsB ops s=true↔∃o∈ops,(o.kind=2∨o.kind=3)∧o.a=s:=by
 unfold rdsB
 simp
/-- An assignment waits for one that is still to come. -/
theorem freeB_iff {todo:List Nat} {i:Nat}:freeB m todo i=false↔∃o∈(asK m i).ops,(o.kind=2∨o.kind=3)∧openB m todo o.a=true:=by
 unfold freeB
 rw [List.all_eq_false]
 constructor
 ·rintro ⟨j,hj,h⟩
  simp only [Bool.not_eq_true',Bool.not_eq_false] at h
  obtain ⟨o,ho,hk,e⟩:=rdsB_iff.1 h
  exact ⟨o,ho,hk,openB_iff.2 ⟨j,hj,e.symm⟩⟩
 ·rintro ⟨o,ho,hk,h⟩
  obtain ⟨j,hj,e⟩:=openB_iff.1 h
  refine ⟨j,hj,?_⟩
  simp only [Bool.not_eq_true',Bool.not_eq_false]
  exact rdsB_iff.2 ⟨o,ho,hk,e.symm⟩
theorem sorted_lt {l:List Nat} (h:l.Pairwise (·<·)) {i j:Nat} (hi:i<l.length) (hj:j<l.length) (hij:l[i]<l[j]):i<j:=by
 rcases Nat.lt_trichotomy i j with h1|h1|h1
 ·exact h1
 ·subst h1;omega
 ·have:=List.pairwise_iff_getElem.1 h j i hj hi h1
  omega
/-- The first place of a list is the first number. -/
theorem first_some {p:Nat→Bool} {l:List Nat} (h:l.Pairwise (·<·)) {k:Nat} (hk:l.findIdx? p=some k):k<l.length∧l[k]?.getD 0∈l∧p (l[k]?.getD 0)=true∧∀j,j<l[k]?.getD 0→j∈l→p j=false:=by
 obtain ⟨hlt,hp,hall⟩:=List.findIdx?_eq_some_iff_getElem.1 hk
 have e:l[k]?.getD 0=l[k]:=by rw [List.getElem?_eq_getElem hlt];rfl
 rw [e]
 refine ⟨hlt,List.getElem_mem hlt,hp,fun j hj hm=>?_⟩
 obtain ⟨i,hi,rfl⟩:=List.getElem_of_mem hm
 have:=hall i (sorted_lt h hi hlt hj)
 simpa using this
theorem first_none {p:Nat→Bool} {l:List Nat} (hk:l.findIdx? p=none):∀j∈l,p j=false:=by
 intro j hj
 have:=List.findIdx?_eq_none_iff.1 hk j hj
 simpa using this
theorem first_of {p:Nat→Bool} {l:List Nat} (h:l.Pairwise (·<·)) {i:Nat} (hm:i∈l) (hp:p i=true) (hall:∀j,j<i→j∈l→p j=false):∃k,l.findIdx? p=some k∧l[k]?.getD 0=i:=by
 rcases hk:l.findIdx? p with _|k
 ·rw [first_none hk i hm] at hp;cases hp
 ·obtain ⟨h1,h2,h3,h4⟩:=first_some h hk
  refine ⟨k,rfl,?_⟩
  rcases Nat.lt_trichotomy (l[k]?.getD 0) i with h5|h5|h5
  ·rw [hall _ h5 h2] at h3;cases h3
  ·exact h5
  ·rw [h4 i h5 hm] at hp;cases hp
theorem erase_sorted {l:List Nat} (h:l.Pairwise (·<·)) (k:Nat):(l.eraseIdx k).Pairwise (·<·):=h.sublist (List.eraseIdx_sublist l k)
theorem erase_mem {l:List Nat} (h:l.Pairwise (·<·)) {k:Nat} (hk:k<l.length) {j:Nat}:j∈l.eraseIdx k↔j∈l∧j≠l[k]?.getD 0:=by
 have e:l[k]?.getD 0=l[k]:=by rw [List.getElem?_eq_getElem hk];rfl
 rw [e,List.mem_eraseIdx_iff_getElem]
 constructor
 ·rintro ⟨i,hi,hne,rfl⟩
  refine ⟨List.getElem_mem _,fun e=>?_⟩
  rcases Nat.lt_trichotomy i k with h1|h1|h1
  ·have:=List.pairwise_iff_getElem.1 h i k hi hk h1;omega
  ·exact hne h1
  ·have:=List.pairwise_iff_getElem.1 h k i hk hi h1;omega
 ·rintro ⟨hm,hne⟩
  obtain ⟨i,hi,rfl⟩:=List.getElem_of_mem hm
  exact ⟨i,hi,fun e=>hne (by subst e;rfl),rfl⟩
/-- The flags when an assignment is put in the order. -/
theorem openB_erase (h:DsFit [m]) {todo:List Nat} (hs:todo.Pairwise (·<·)) (ht:∀j∈todo,j<m.asgs.length) {k:Nat} (hk:k<todo.length) (s:Int):openB m (todo.eraseIdx k) s=true↔openB m todo s=true∧s≠(asK m (todo[k]?.getD 0)).target:=by
 have hkm:todo[k]?.getD 0∈todo:=by rw [List.getElem?_eq_getElem hk];exact List.getElem_mem hk
 rw [openB_iff,openB_iff]
 constructor
 ·rintro ⟨j,hj,rfl⟩
  obtain ⟨h1,h2⟩:=(erase_mem hs hk).1 hj
  exact ⟨⟨j,h1,rfl⟩,fun e=>h2 (tgt_inj h (ht j h1) (ht _ hkm) e)⟩
 ·rintro ⟨⟨j,h1,rfl⟩,h2⟩
  exact ⟨j,(erase_mem hs hk).2 ⟨h1,fun e=>h2 (by rw [e])⟩,rfl⟩
end
end Go.Proofs.YtlinbdkbbhpdpaaGreat
