/- Bits that are applied to tiles can be read at these tiles; plain. A network that is read back from a device behaves like the device: whole runs. Plain lemmas; no function is walked here. A network that is read back from a device is valid and behaves like the device. Plain lemmas; no function is walked here. -/
import Derived.Test.YtignkfhdkcgkgaaGreatCw
import Derived.Test.YtignkfhdkcgkgaaGreatDisLaw2
import Derived.Test.YtignkfhdkcgkgaaGreatDisRB
import Derived.Test.YtignkfhdkcgkgaaGreatRunPure
import Derived.Test.YtignkfhdkcgkgaaGreatRunT
import Derived.Test.YtignkfhdkcgkgaaGreatTileRd
namespace Go.Proofs.YtignkfhdkcgkgaaGreat
set_option maxRecDepth 100000
open Go.RowKit Cw

theorem padsTo_get {N:Nat} {ts:List Int} {b:Int} (hr:∀j,j<ts.length→∃t:Nat,ts[j]?.getD 0=(t:Int)∧t<N) (hu:∀i j,i<j→j<ts.length→ts[i]?.getD 0<ts[j]?.getD 0) (k:Nat) (hk:k≤ts.length) :
  ∀j,j<k→(padsTo N ts b k)[(ts[j]?.getD 0).toNat]?.getD 0=bits .and .i64 (b / 2 ^ j) 1:=by
 induction k with
 | zero=>intro j hj;omega
 | succ k ih =>
  intro j hj
  obtain ⟨t,e,ht⟩:=hr k (by omega)
  rw [padsTo,e]
  rcases Nat.lt_or_ge j k with h|h
  ·have:=hu j k h (by omega)
   obtain ⟨s,e',hs⟩:=hr j (by omega)
   rw [e,e'] at this
   rw [List.getElem?_set_ne (by rw [e'];simp;omega)]
   exact ih (by omega) j h
  ·obtain rfl:j=k:=by omega
   rw [e,Int.toNat_natCast,List.getElem?_set_self (by rw [padsTo_length];exact ht)]
   rfl
end Go.Proofs.YtignkfhdkcgkgaaGreat

namespace Go.Proofs.YtignkfhdkcgkgaaGreat
set_option maxRecDepth 100000
open Go.RowKit Cw

namespace Both
variable {d:Dev} {ts:List Tile} {st pads pl:List Int} {lt:List Lt} {l:LNet} {nst:List Int} {x:Int}
theorem pinsTo (h:Both d ts st pads pl lt l nst x) (k:Nat) (hk:k≤pl.length):PinEq d ts (valsF d ts st pads) (lnVals l nst x) (pl.take k):=by
 induction k with
 | zero=>rw [List.take_zero];exact h.pin0
 | succ k ih =>
  have ih:=ih (by omega)
  obtain ⟨hi,_,_⟩:=ordA_inv h.ord
  have hy:pl[k]?=some pl[k]:=List.getElem?_eq_getElem (by omega)
  generalize pl[k]=y at hy
  obtain ⟨hyl,hyn,_,_⟩:=hi.step k y hy
  have ht1:pl.take (k+1)=pl.take k++[y]:=by rw [List.take_add_one,hy];rfl
  have hl:=h.lutEq hy ih
  rw [ht1]
  intro t p ht hp hpo h0
  by_cases hc:kindOf d t=0∨kindOf d t=2∨(leX ts (2 * t+p)).flop=1∨2 * t+p≠y
  ·rw [ndP_snoc hyn hc] at h0 ⊢
   exact ih t p ht hp hpo h0
  ·have hk0:¬kindOf d t=0:=fun h=>hc (.inl h)
   have hk2:¬kindOf d t=2:=fun h=>hc (.inr (.inl h))
   have hf1:¬(leX ts (2 * t+p)).flop=1:=fun h=>hc (.inr (.inr (.inl h)))
   have he:2 * t+p=y:=Classical.byContradiction fun h=>hc (.inr (.inr (.inr h)))
   have htp:=outPins_bd d t
   have hpb:=perT_bd h.cfg.dev
   have hle:leX ts (2 * t+p)=leAt ts t p:=leX_eq ts t p hp (by omega)
   have hno:=pin_ok (k:=5+p) ht (by omega) (.inr ⟨by omega,by omega,by omega⟩)
   obtain ⟨_,q1,q2⟩:=node_at (k:=5+p) ht (by omega) (by omega)
   have hrr:=node_range hno
   obtain ⟨n,hn⟩:=Int.eq_ofNat_of_zero_le hrr.1
   have hpf:pinF d ts st pads (valsF d ts st pads) t p=nv (lnVals l nst x) (ltB d ts+(k:Int)):=by
    unfold pinF
    rw [if_neg hk0,if_neg hk2,←hle,if_neg hf1,←hl,←he,(half_two t hp (by omega)).1]
   have h2:In2 (lnVals l nst x):=in2_to l nst x _
   have hpos:=(h2 (ltB d ts+(k:Int))).1
   have hv:=vals_pin (d:=d) (ts:=ts) (st:=st) (pads:=pads) (k:=n) (by omega) (by rw [←hn];exact hno) (by rw [←hn,q2];omega) (by rw [←hn,q1,q2,show 5+p - 5=p by omega,hpf];exact hpos)
   rw [←hn,q1,q2,show 5+p - 5=p by omega,hpf] at hv
   rw [hv]
   congr 1
   unfold ndP
   rw [if_neg hk0,if_neg hk2,if_neg hf1,he,if_pos (by simp),numF_snoc hyn,if_pos rfl,List.length_take]
   omega
theorem pins (h:Both d ts st pads pl lt l nst x):PinEq d ts (valsF d ts st pads) (lnVals l nst x) pl:=by
 have:=h.pinsTo pl.length (Nat.le_refl _)
 rwa [List.take_length] at this
theorem tr (h:Both d ts st pads pl lt l nst x) {n:Int} (hn:nodeOk d n=true) (h0:0≤Go.Proofs.YtignkfhdkcgkgaaGreat.tr d ts pl n):nv (valsF d ts st pads) n=nv (lnVals l nst x) (Go.Proofs.YtignkfhdkcgkgaaGreat.tr d ts pl n):=tr_eq h.cfg h.fit h.zero h.pins hn h0
theorem lut (h:Both d ts st pads pl lt l nst x) {y:Int} (hy:y∈lgL d ts):lutF d (valsF d ts st pads) (y / 2) (leX ts y)=nv (lnVals l nst x) (numF (ltB d ts) pl y):=by
 obtain ⟨hi,_,hall⟩:=ordA_inv h.ord
 obtain ⟨k,hk,he⟩:=List.getElem_of_mem (hall y hy)
 have hg:pl[k]?=some y:=by rw [List.getElem?_eq_getElem hk,he]
 rw [h.lutEq hg (h.pinsTo k (by omega)),numF_at hg (hi.step k y hg).2.1]
theorem in2 (_h:Both d ts st pads pl lt l nst x):In2 (lnVals l nst x):=in2_to l nst x _
/-- The memories' inputs. -/
theorem ramPk (h:Both d ts st pads pl lt l nst x) {t:Int} (ht:tileIn d t=true) (hk:kindOf d t=2) (hm:2 * t∈owL d ts):inTo d (valsF d ts st pads) t 4=pk (lnVals l nst x) (ramIn d ts pl (2 * t) 4):=by
 have hok:=h.parts.1 _ hm
 rw [sqOk,show 2 * t / 2=t by omega,decide_eq_true hk] at hok
 change ramOk d ts pl (2 * t)=true at hok
 unfold ramOk at hok
 rw [List.all_eq_true,show 2 * t / 2=t by omega] at hok
 have hl:(ramIn d ts pl (2 * t) 4).length=4:=by simp [ramIn]
 unfold pk
 rw [hl]
 have:∀m,m≤4→inTo d (valsF d ts st pads) t m=pkTo (lnVals l nst x) (ramIn d ts pl (2 * t) 4) m:=fun m=>by
  induction m with
  | zero=>intro _;rfl
  | succ m ih =>
   intro hm4
   have h0:=hok m (List.mem_range.2 (by omega))
   rw [decide_eq_true_eq] at h0
   have he:(ramIn d ts pl (2 * t) 4)[m]?.getD 0=Go.Proofs.YtignkfhdkcgkgaaGreat.tr d ts pl (t * perT d+(m:Int)):=by
    unfold ramIn
    rw [List.getElem?_map,List.getElem?_range (by omega),show 2 * t / 2=t by omega]
    rfl
   rw [inTo,pkTo,ih (by omega),he,h.tr (pin_ok ht (by omega) (.inl ⟨by omega,by rw [hk];unfold inPins;simp;omega⟩)) h0]
   have hb:=h.in2 (Go.Proofs.YtignkfhdkcgkgaaGreat.tr d ts pl (t * perT d+(m:Int)))
   have hmx:mx (nv (lnVals l nst x) (Go.Proofs.YtignkfhdkcgkgaaGreat.tr d ts pl (t * perT d+(m:Int))))=nv (lnVals l nst x) (Go.Proofs.YtignkfhdkcgkgaaGreat.tr d ts pl (t * perT d+(m:Int))):=by unfold mx;split <;> omega
   rw [hmx]
 exact this 4 (Nat.le_refl _)
end Both
/-! ### the next state -/
def nxV (d:Dev) (ts:List Tile) (st vs:List Int) (i:Nat):Int :=
 if kindOf d ((i / 2:Nat):Int)=1 then (if (leX ts (i:Int)).flop=1 then mx (lutF d vs ((i / 2:Nat):Int) (leX ts (i:Int))) else st[i]?.getD 0)
 else if kindOf d ((i / 2:Nat):Int)=2∧i % 2=0 then ((ramNext (st[i]?.getD 0).toNat (inTo d vs ((i / 2:Nat):Int) 4):Nat):Int) else st[i]?.getD 0
theorem flopTo_get {d:Dev} {ts:List Tile} {vs l:List Int} {k e i:Nat} (he:e≤2) (hl:2 * k+2≤l.length):(flopTo d ts vs k l e)[i]?.getD 0=if 2 * k≤i∧i<2 * k+e∧(leX ts (i:Int)).flop=1 then mx (lutF d vs (k:Int) (leX ts (i:Int))) else l[i]?.getD 0:=by
 induction e with
 | zero=>rw [flopTo,if_neg (by omega)]
 | succ e ih =>
  have ih:=ih (by omega)
  have hx:leX ts ((2 * k+e:Nat):Int)=leAt ts (k:Int) (e:Int):=by
   have:=leX_eq ts (k:Int) (e:Int) (by omega) (by omega)
   rw [←this]
   congr 1
  rw [flopTo,flopSet]
  split
  ·rename_i hf
   rw [getD_set,flopTo_length]
   by_cases hi:2 * k+e=i
   ·subst hi
    rw [if_pos ⟨rfl,by omega⟩,if_pos ⟨by omega,by omega,by rw [hx];exact hf⟩,hx]
   ·rw [if_neg (by omega),ih]
    by_cases hc:2 * k≤i∧i<2 * k+e∧(leX ts (i:Int)).flop=1
    ·rw [if_pos hc,if_pos ⟨hc.1,by omega,hc.2.2⟩]
    ·rw [if_neg hc,if_neg (by rintro ⟨a,b,c⟩;exact hc ⟨a,by omega,c⟩)]
  ·rename_i hf
   rw [ih]
   by_cases hc:2 * k≤i∧i<2 * k+e∧(leX ts (i:Int)).flop=1
   ·rw [if_pos hc,if_pos ⟨hc.1,by omega,hc.2.2⟩]
   ·rw [if_neg hc,if_neg]
    rintro ⟨a,b,c⟩
    by_cases hi:i=2 * k+e
    ·subst hi
     rw [hx] at c
     exact hf c
    ·exact hc ⟨a,by omega,c⟩
theorem nextTo_get {d:Dev} {ts:List Tile} {st vs:List Int} {k i:Nat} (hk:2 * k≤st.length):(nextTo d ts st vs k)[i]?.getD 0=if i / 2<k then nxV d ts st vs i else st[i]?.getD 0:=by
 induction k with
 | zero=>rw [nextTo,if_neg (by omega)]
 | succ k ih =>
  have ih:=ih (by omega)
  have hkl:∀j:Nat,¬j / 2<k→(nextTo d ts st vs k)[j]?.getD 0=(nextTo d ts st vs k)[j]?.getD 0:=fun _ _=>rfl
  rw [nextTo,nx1]
  by_cases h1:kindOf d (k:Int)=1
  ·rw [if_pos h1,flopTo_get (by omega) (by rw [nextTo_length];omega),ih]
   by_cases hi:i / 2=k
   ·rw [if_neg (show ¬i / 2<k by omega),if_pos (show i / 2<k+1 by omega)]
    unfold nxV
    rw [hi,if_pos h1]
    by_cases hf:(leX ts (i:Int)).flop=1
    ·rw [if_pos ⟨by omega,by omega,hf⟩,if_pos hf]
    ·rw [if_neg (fun hh=>hf hh.2.2),if_neg hf]
   ·rw [if_neg (by omega)]
    by_cases h2:i / 2<k
    ·rw [if_pos h2,if_pos (by omega)]
    ·rw [if_neg h2,if_neg (by omega)]
  ·rw [if_neg h1]
   by_cases h2:kindOf d (k:Int)=2
   ·rw [if_pos h2,getD_set,nextTo_length]
    by_cases hi:2 * k=i
    ·subst hi
     rw [if_pos ⟨rfl,by omega⟩,if_pos (show 2 * k / 2<k+1 by omega)]
     unfold nxV
     rw [show 2 * k / 2=k by omega,if_neg h1,if_pos ⟨h2,by omega⟩]
    ·rw [if_neg (fun hh=>hi hh.1),ih]
     by_cases h3:i / 2<k
     ·rw [if_pos h3,if_pos (by omega)]
     ·rw [if_neg h3]
      by_cases h4:i / 2<k+1
      ·rw [if_pos h4]
       have h5:i / 2=k:=by omega
       unfold nxV
       rw [h5,if_neg h1,if_neg (by rintro ⟨_,h⟩;omega)]
      ·rw [if_neg h4]
   ·rw [if_neg h2,ih]
    by_cases h3:i / 2<k
    ·rw [if_pos h3,if_pos (by omega)]
    ·rw [if_neg h3]
     by_cases h4:i / 2<k+1
     ·rw [if_pos h4]
      have h5:i / 2=k:=by omega
      unfold nxV
      rw [h5,if_neg h1,if_neg (by rintro ⟨h,_⟩;exact h2 h)]
     ·rw [if_neg h4]
theorem outTo_get {d:Dev} {ts:List Tile} {vs:List Int} {m k i:Nat} (hk:k≤m):(outTo d ts vs m k)[i]?.getD 0=if i<k∧kindOf d (i:Int)=0∧(ts[i]?.getD Tile.zero).pad=2 then mx (nv vs ((i:Int) * perT d)) else 0:=by
 induction k with
 | zero =>
  rw [outTo,if_neg (by omega),List.getElem?_replicate]
  split <;> rfl
 | succ k ih =>
  have ih:=ih (by omega)
  rw [outTo,ou1]
  split
  ·rename_i hc
   rw [getD_set,outTo_length]
   by_cases hi:k=i
   ·subst hi
    rw [if_pos ⟨rfl,by omega⟩,if_pos ⟨by omega,hc.1,hc.2⟩]
   ·rw [if_neg (fun h=>hi h.1),ih]
    by_cases h3:i<k∧kindOf d (i:Int)=0∧(ts[i]?.getD Tile.zero).pad=2
    ·rw [if_pos h3,if_pos ⟨by omega,h3.2⟩]
    ·rw [if_neg h3,if_neg (by rintro ⟨a,b⟩;exact h3 ⟨by omega,b⟩)]
  ·rename_i hc
   rw [ih]
   by_cases h3:i<k∧kindOf d (i:Int)=0∧(ts[i]?.getD Tile.zero).pad=2
   ·rw [if_pos h3,if_pos ⟨by omega,h3.2⟩]
   ·rw [if_neg h3,if_neg]
    rintro ⟨a,b⟩
    by_cases hi:i=k
    ·subst hi;exact hc b
    ·exact h3 ⟨by omega,b⟩
namespace Both
variable {d:Dev} {ts:List Tile} {st pads pl:List Int} {lt:List Lt} {l:LNet} {nst:List Int} {x:Int}
theorem next (h:Both d ts st pads pl lt l nst x) (hst:st.length=2 * ts.length):lnNext l nst x=(owL d ts).map fun y=>nv (nextF d ts st pads) y:=by
 have hp:=h.parts
 apply List.ext_getElem?
 intro i
 unfold lnNext
 rw [List.getElem?_map,List.getElem?_map,h.first.2.2.1]
 rcases Nat.lt_or_ge i (owL d ts).length with hi|hi
 ·have hg:(owL d ts)[i]?=some (owL d ts)[i]:=List.getElem?_eq_getElem hi
  rw [List.getElem?_range hi,hg]
  have hm:=List.getElem_mem hi
  generalize (owL d ts)[i]=y at *
  rw [Option.map_some,Option.map_some]
  congr 1
  have hin:=owTo_in.1 hm
  obtain ⟨n,rfl⟩:=Int.eq_ofNat_of_zero_le hin.1
  have htq:=tiles_eq h.cfg.dev
  have hcl:=h.cfg.len
  have hti:tileIn d (((n / 2:Nat):Int))=true:=tileIn_iff.2 ⟨h.cfg.dev,by omega,by omega⟩
  have hsq:(l.seqs[i]?.getD Sq.zero)=sqOf d ts pl (n:Int):=by rw [hp.2.2];simp only [List.getElem?_map,hg,Option.map_some,Option.getD_some]
  have hns:nst[i]?.getD 0=nv st (n:Int):=by rw [h.sta,List.getElem?_map,hg];rfl
  have hrhs:nv (nextF d ts st pads) (n:Int)=nxV d ts st (valsF d ts st pads) n:=by
   unfold nv nextF
   rw [Int.toNat_natCast,nextTo_get (by omega),if_pos (by omega)]
  have hnv:nv st (n:Int)=st[n]?.getD 0:=rfl
  rw [hrhs,lnNx,hsq,hns,hnv]
  have hdiv:((n:Int) / 2)=((n / 2:Nat):Int):=by omega
  unfold sqOf sqI sq0 sqNx nxV
  rcases hin.2.2 with ⟨hk,hf⟩|⟨hk,hf⟩
  ·rw [hdiv] at hk
   have hlm:(n:Int)∈lgL d ts:=lgTo_in.2 ⟨by omega,hin.2.1,by rw [hdiv];exact hk⟩
   have hlut:=h.lut hlm
   rw [hdiv] at hlut
   simp only [hdiv,hk,if_neg (show ¬((1:Int)=2) by decide),if_pos hf,if_true]
   rw [if_neg (by decide),hlut]
   unfold pk
   simp only [List.length_cons,List.length_nil,pkTo,List.getElem?_cons_zero,Option.getD_some]
   have hb:=h.in2 (numF (ltB d ts) pl (n:Int))
   unfold mx
   split <;> omega
  ·rw [hdiv] at hk
   have h2t:2 * ((n / 2:Nat):Int)=(n:Int):=by omega
   have hr:=h.ramPk hti hk (by rw [h2t];exact hm)
   rw [h2t] at hr
   simp only [hdiv,hk,if_true]
   rw [if_neg (by decide),if_pos ⟨trivial,by omega⟩,hr]
 ·rw [List.getElem?_eq_none (by simpa using hi),List.getElem?_eq_none hi]
  rfl
theorem out (h:Both d ts st pads pl lt l nst x) (h16:(outL d ts).length≤40):bitsAt (outF d ts st pads) (outL d ts)=lnOut l nst x:=by
 have hp:=h.parts
 have hou:l.outs=(outL d ts).map (outN d ts pl):=by rw [hp.2.2]
 unfold bitsAt lnOut pk
 rw [if_pos h16,hou,List.length_map]
 have:∀m,m≤(outL d ts).length→bitsTo (outF d ts st pads) (outL d ts) m=((pkTo (lnVals l nst x) ((outL d ts).map (outN d ts pl)) m:Nat):Int):=fun m=>by
  induction m with
  | zero=>intro _;rfl
  | succ m ih =>
   intro hm
   have hg:(outL d ts)[m]?=some (outL d ts)[m]:=List.getElem?_eq_getElem (by omega)
   have hmem:=List.getElem_mem (show m<(outL d ts).length by omega)
   rw [bitsTo,pkTo,ih (by omega),List.getElem?_map,hg]
   generalize (outL d ts)[m]=t at *
   have hin:=padTo_in hmem
   obtain ⟨n,rfl⟩:=Int.eq_ofNat_of_zero_le hin.1
   have htq:=tiles_eq h.cfg.dev
   have hcl:=h.cfg.len
   have hq:=hin.2.2
   unfold padQ at hq
   rw [Int.toNat_natCast,Bool.and_eq_true,decide_eq_true_eq,decide_eq_true_eq] at hq
   have hti:tileIn d (n:Int)=true:=tileIn_iff.2 ⟨h.cfg.dev,by omega,by omega⟩
   have hno:=pin_ok (k:=0) hti (by omega) (.inl ⟨by omega,by rw [hq.1];unfold inPins;simp⟩)
   rw [Int.add_zero] at hno
   have h0:=hp.2.1 _ hmem
   have hv:=h.tr hno h0
   have hb:=h.in2 (outN d ts pl (n:Int))
   change nv (valsF d ts st pads) ((n:Int) * perT d)=nv (lnVals l nst x) (outN d ts pl (n:Int)) at hv
   have hpad:(ts[n]?.getD Tile.zero).pad=2:=hq.2
   have ho:(outF d ts st pads)[n]?.getD 0=nv (lnVals l nst x) (outN d ts pl (n:Int)):=by
    unfold outF
    rw [outTo_get (Nat.le_refl _),if_pos ⟨by omega,hq.1,hpad⟩,hv]
    unfold mx
    split <;> omega
   have hol:(outF d ts st pads).length=ts.length:=outTo_length _ _ _ _ _
   have hhit:hitAt (outF d ts st pads) (n:Int)=decide (nv (lnVals l nst x) (outN d ts pl (n:Int))=1):=by
    unfold hitAt
    rw [Int.toNat_natCast,ho,decide_eq_true (by omega),decide_eq_true (by omega),Bool.true_and,Bool.true_and]
    rw [Bool.eq_iff_iff]
    simp
   simp only [Option.map_some,Option.getD_some]
   have hc:nv (lnVals l nst x) (outN d ts pl (n:Int))=0∨nv (lnVals l nst x) (outN d ts pl (n:Int))=1:=by omega
   rcases hc with hc|hc
   ·have hh:hitAt (outF d ts st pads) (n:Int)=false:=by rw [hhit,hc];rfl
    simp [hh,hc]
   ·have hh:hitAt (outF d ts st pads) (n:Int)=true:=by rw [hhit,hc];rfl
    simp [hh,hc]
 exact this _ (Nat.le_refl _)
end Both
end Go.Proofs.YtignkfhdkcgkgaaGreat

namespace Go.Proofs.YtignkfhdkcgkgaaGreat
set_option maxRecDepth 100000
open Go.RowKit Cw

theorem disT_parts {d:Dev} {ts:List Tile} {l:LNet} (h:disT d ts=some l):(owL d ts).length≤12∧(outL d ts).length≤16∧∃pl lt,ordA d ts=some (pl,lt)∧disP d ts pl lt=some l:=by
 unfold disT at h
 split at h
 ·cases h
 ·split at h
  ·cases h
  ·rename_i pl lt ho
   exact ⟨by omega,by omega,pl,lt,ho,h⟩
theorem padsIn_ins {d:Dev} {ts:List Tile} (hc:CfgOk d ts):padsIn d (insL d ts):=by
 have htq:=tiles_eq hc.dev
 have hcl:=hc.len
 have hl:=padTo_length d ts 1 ts.length
 refine ⟨hc.dev,by unfold insL;omega,fun j hj=>?_⟩
 rw [List.getElem?_eq_getElem hj,Option.getD_some]
 have:=padTo_in (List.getElem_mem hj)
 exact inR_iff.2 ⟨this.1,by omega⟩
theorem pads_ins {d:Dev} {ts:List Tile} (hc:CfgOk d ts) (b:Int) {i:Nat} {t:Int} (h:(insL d ts)[i]?=some t):nv (padsFor d (insL d ts) b) t=lbit b i:=by
 have hp:=padsIn_ins hc
 have hi:=(List.getElem?_eq_some_iff.1 h).1
 have hg:=padsTo_get (N:=tiles d) (ts:=insL d ts) (b:=b) (fun j hj=>by
  have:=inR_iff.1 (hp.2.2 j hj)
  exact ⟨((insL d ts)[j]?.getD 0).toNat,by omega,by omega⟩) (fun i j hij hj=>by
  rw [List.getElem?_eq_getElem hj,List.getElem?_eq_getElem (by omega),Option.getD_some,Option.getD_some]
  exact (List.pairwise_iff_getElem.1 (padTo_asc d ts 1 ts.length)) i j (Nat.lt_trans hij hj) hj hij) (insL d ts).length (Nat.le_refl _) i hi
 rw [h,Option.getD_some] at hg
 rw [padsFor_yes hp]
 exact hg
theorem start_ow {d:Dev} {fs:List (List Int)} (hf:framesOk d fs=true) {x:Int} (hx:x∈owL d (tilesOf d fs)):nv (startF d fs) x=(sq0 d (tilesOf d fs) x).init:=by
 have hin:=owTo_in.1 hx
 have hr:readF d fs=tilesOf d fs:=by unfold readF;rw [if_pos hf]
 obtain ⟨n,rfl⟩:=Int.eq_ofNat_of_zero_le hin.1
 have hn2:=hin.2.1
 have hg:=startTo_get (d:=d) (ts:=tilesOf d fs) (m:=(tilesOf d fs).length) (k:=n / 2) (by omega) (e:=n % 2) (by omega)
 rw [show 2 * (n / 2)+n % 2=n by omega] at hg
 unfold nv startF
 rw [Int.toNat_natCast,hr,hg]
 unfold startOf sq0
 have hdiv:((n:Int) / 2)=((n / 2:Nat):Int):=by omega
 rcases hin.2.2 with ⟨hk,_⟩|⟨hk,hm⟩
 ·rw [hdiv] at hk
  rw [hdiv,hk,if_pos rfl,if_neg (by decide)]
  unfold leX tileAt
  rw [hdiv,Int.toNat_natCast,show ((n:Int) % 2).toNat=n % 2 by omega]
  have hm:n % 2=0∨n % 2=1:=by omega
  rcases hm with h|h <;> rw [h] <;> rfl
 ·rw [hdiv] at hk
  rw [hdiv,hk,if_neg (by decide),if_pos rfl,if_pos rfl,show n % 2=0 by omega]
  unfold tileAt
  rw [Int.toNat_natCast]
  rfl
section
variable {d:Dev} {fs:List (List Int)} {pl:List Int} {lt:List Lt} {l:LNet}
def padsX (d:Dev) (fs:List (List Int)) (xs:List Int):List (List Int):=xs.map (padsFor d (insL d (tilesOf d fs)))
theorem padsX_get {d:Dev} {fs:List (List Int)} {xs:List Int} {k:Nat} (hk:k<xs.length):(padsX d fs xs)[k]?.getD []=padsFor d (insL d (tilesOf d fs)) (xs[k]?.getD 0):=by
 unfold padsX
 rw [List.getElem?_map,List.getElem?_eq_getElem hk]
 rfl
theorem both_at (hf:framesOk d fs=true) (ho:ordA d (tilesOf d fs)=some (pl,lt)) (hp:disP d (tilesOf d fs) pl lt=some l) (xs:List Int) {k:Nat} (hk:k<xs.length) (hs:lnSt l xs k=(owL d (tilesOf d fs)).map fun y=>nv (stK d fs (padsX d fs xs) k) y) :
  Both d (tilesOf d fs) (stK d fs (padsX d fs xs) k) ((padsX d fs xs)[k]?.getD []) pl lt l (lnSt l xs k) (xs[k]?.getD 0):=by
 have hc:=cfg_of_frames hf
 refine ⟨hc,?_,ho,hp,hs,fun i t ht=>?_⟩
 ·refine stPads_ok (stK_ok hf fun j hj=>?_) ?_
  ·rw [padsX_get (by omega)];exact padsFor_ok (padsIn_ins hc) _
  ·rw [padsX_get hk];exact padsFor_ok (padsIn_ins hc) _
 ·rw [padsX_get hk];exact pads_ins hc _ ht
theorem st_at (hf:framesOk d fs=true) (ho:ordA d (tilesOf d fs)=some (pl,lt)) (hp:disP d (tilesOf d fs) pl lt=some l) (xs:List Int) (k:Nat) (hk:k≤xs.length):lnSt l xs k=(owL d (tilesOf d fs)).map fun y=>nv (stK d fs (padsX d fs xs) k) y:=by
 have hc:=cfg_of_frames hf
 induction k with
 | zero =>
  have hsq:l.seqs=(owL d (tilesOf d fs)).map (sqOf d (tilesOf d fs) pl):=by
   unfold disP at hp
   split at hp
   ·injection hp with hp
    rw [←hp]
   ·cases hp
  rw [lnSt,lnStart,hsq,List.map_map]
  apply List.map_congr_left
  intro y hy
  rw [stK,start_ow hf hy]
  rfl
 | succ k ih =>
  have ih:=ih (by omega)
  have hb:=both_at hf ho hp xs (by omega:k<xs.length) ih
  have hst:=stK_ok (d:=d) (fs:=fs) (pads:=padsX d fs xs) hf (k:=k) fun j hj=>by rw [padsX_get (by omega)];exact padsFor_ok (padsIn_ins hc) _
  have hlen:(stK d fs (padsX d fs xs) k).length=2 * (tilesOf d fs).length:=by
   unfold stOk at hst
   rw [Bool.and_eq_true,Bool.and_eq_true,decide_eq_true_eq] at hst
   rw [hst.2.1,hc.len]
  rw [lnSt,hb.next hlen]
  rfl
theorem run_eq (hf:framesOk d fs=true) (hl:disT d (tilesOf d fs)=some l) (xs:List Int) (hx:xs.length≤16):rtF d fs (insL d (tilesOf d fs)) (outL d (tilesOf d fs)) xs=lnRun l xs:=by
 obtain ⟨_,h16,pl,lt,ho,hp⟩:=disT_parts hl
 have hc:=cfg_of_frames hf
 rw [rtF_good ⟨hf,hx,padsIn_ins hc,by omega⟩]
 unfold lnRun
 have:∀k,k≤xs.length→(runO d fs (padsX d fs xs) k).map (fun o=>bitsAt o (outL d (tilesOf d fs)))=(List.range k).map fun j=>lnOut l (lnSt l xs j) (xs[j]?.getD 0):=fun k=>by
  induction k with
  | zero=>intro _;rfl
  | succ k ih =>
   intro hk
   have hb:=both_at hf ho hp xs (by omega:k<xs.length) (st_at hf ho hp xs k (by omega))
   rw [runO,List.map_append,ih (by omega),List.range_succ,List.map_append,List.map_cons,List.map_nil,List.map_cons,List.map_nil,hb.out (by omega)]
 exact this _ (Nat.le_refl _)
end
/-! ### it is valid -/
def ioTo (W H:Nat):Nat→Nat
 | 0=>0
 | k+1=>ioTo W H k+if k % W=0∨k % W=W - 1∨k / W=0∨k / W=H - 1 then 1 else 0
theorem ioTo_20:∀W:Fin 4,∀H:Fin 4,ioTo (W.val+3) (H.val+3) ((W.val+3) * (H.val+3))≤20:=by decide +kernel
theorem ins_20 {d:Dev} {ts:List Tile} (hc:CfgOk d ts):(insL d ts).length≤20:=by
 have hb:=devOk_bd hc.dev
 obtain ⟨a,ha,ha4⟩:∃a:Nat,d.W=((a+3:Nat):Int)∧a<4:=⟨(d.W - 3).toNat,by omega,by omega⟩
 obtain ⟨b,hbh,hb4⟩:∃b:Nat,d.H=((b+3:Nat):Int)∧b<4:=⟨(d.H - 3).toNat,by omega,by omega⟩
 have hle:∀k,(padTo d ts 1 k).length≤ioTo (a+3) (b+3) k:=fun k=>by
  induction k with
  | zero=>exact Nat.zero_le _
  | succ k ih =>
   rw [padTo,List.length_append,ioTo]
   by_cases hq:padQ d ts 1 k=true
   ·rw [if_pos hq]
    unfold padQ at hq
    rw [Bool.and_eq_true,decide_eq_true_eq] at hq
    have hk:=hq.1
    unfold kindOf at hk
    split at hk
    ·rename_i hh
     rw [ha,hbh] at hh
     rw [if_pos]
     ·simp only [List.length_cons,List.length_nil];omega
     ·have e1:(k:Int) % ((a+3:Nat):Int)=((k % (a+3):Nat):Int):=by omega
      have e2:(k:Int) / ((a+3:Nat):Int)=((k / (a+3):Nat):Int):=by omega
      rw [e1,e2] at hh
      omega
    ·split at hk <;> omega
   ·rw [if_neg hq]
    simp only [List.length_nil]
    omega
 have h20:=ioTo_20 ⟨a,ha4⟩ ⟨b,hb4⟩
 have htl:ts.length=(a+3) * (b+3):=by
  rw [hc.len]
  unfold tiles
  rw [ha,hbh,←Int.natCast_mul,Int.toNat_natCast]
 have:=hle ts.length
 rw [htl] at this
 unfold insL
 rw [htl]
 exact Nat.le_trans this h20
theorem net_fit {d:Dev} {ts:List Tile} {l:LNet} (hc:CfgOk d ts) (h:disT d ts=some l):NetFit l∧l.inputs=((insL d ts).length:Int)∧l.outs.length=(outL d ts).length:=by
 obtain ⟨h12,h16,pl,lt,ho,hp⟩:=disT_parts h
 obtain ⟨hi,hpl,hall⟩:=ordA_inv ho
 have htq:=tiles_eq hc.dev
 have hcl:=hc.len
 have hlg:=lgTo_length d ts.length
 have h20:=ins_20 hc
 unfold disP at hp
 split at hp
 ·rename_i hh
  rw [Bool.and_eq_true,List.all_eq_true,List.all_eq_true] at hh
  injection hp with hp
  subst hp
  have hfst:∀(o:List Int),((LNet.first ⟨((insL d ts).length:Int),(owL d ts).map (sqOf d ts pl),lt,o⟩:Nat):Int)=ltB d ts:=fun o=>by
   unfold LNet.first ltB
   simp only [List.length_map]
   omega
  have hcnt:∀(o:List Int),((LNet.count ⟨((insL d ts).length:Int),(owL d ts).map (sqOf d ts pl),lt,o⟩:Nat):Int)=ltB d ts+(pl.length:Int):=fun o=>by
   have:=hfst o
   unfold LNet.count
   rw [hi.len]
   simp only []
   omega
  refine ⟨⟨⟨by simp only [];omega,by simp only [];omega⟩,by simp only [List.length_map];omega,by simp only [];unfold lgL at hpl;rw [←hi.len];omega,by simp only [List.length_map];omega,fun n hn=>?_,fun i hil=>?_,fun i hil=>?_⟩,rfl,by simp only [List.length_map]⟩
  ·simp only [List.mem_map] at hn
   obtain ⟨t,ht,rfl⟩:=hn
   have h0:0≤outN d ts pl t:=by simpa using hh.2 t ht
   refine ⟨h0,?_⟩
   rw [hcnt]
   exact trF_lt (Nat.le_refl _) _ _ h0
  ·simp only [List.length_map] at hil
   simp only [List.getElem?_map,List.getElem?_eq_getElem hil,Option.map_some,Option.getD_some]
   have hm:=List.getElem_mem hil
   generalize (owL d ts)[i]=y at *
   have hin:=owTo_in.1 hm
   have hti:tileIn d (y / 2)=true:=tileIn_iff.2 ⟨hc.dev,by omega,by omega⟩
   have hok:=hh.1 y hm
   have hlf:=le_fit (e:=y % 2) hc hti (by omega)
   rw [hcnt]
   rcases hin.2.2 with ⟨hk,hf⟩|⟨hk,_⟩
   ·refine ⟨.inl ?_,?_⟩
    ·unfold sqOf sqI sq0
     rw [if_neg (by omega),if_neg (by omega)]
     exact ⟨rfl,hlf.1.init,rfl⟩
    ·unfold sqOf sqI
     rw [if_neg (by omega)]
     intro n hn
     simp only [List.mem_singleton] at hn
     subst hn
     have hb:0<ltB d ts:=by unfold ltB;omega
     have h1:=numF_bd (base:=ltB d ts) (l:=pl) (x:=y) (by omega)
     exact ⟨h1.1,numF_lt hb⟩
   ·refine ⟨.inr ?_,?_⟩
    ·unfold sqOf sqI sq0
     rw [if_pos hk,if_pos hk]
     exact ⟨rfl,hlf.2.2.2.ram,by simp [ramIn]⟩
    ·unfold sqOf sqI
     rw [if_pos hk]
     intro n hn
     simp only [ramIn,List.mem_map] at hn
     obtain ⟨j,hj,rfl⟩:=hn
     rw [sqOk,decide_eq_true hk] at hok
     change ramOk d ts pl y=true at hok
     unfold ramOk at hok
     rw [List.all_eq_true] at hok
     have h0:0≤tr d ts pl (y / 2 * perT d+(j:Int)):=by simpa using hok j hj
     exact ⟨h0,trF_lt (Nat.le_refl _) _ _ h0⟩
  ·simp only [] at hil ⊢
   have hil':i<pl.length:=by rw [hi.len];exact hil
   have hg:pl[i]?=some pl[i]:=List.getElem?_eq_getElem hil'
   obtain ⟨h1,h2,h3,h4⟩:=hi.step i _ hg
   have hy:=lgTo_in.1 h1
   generalize pl[i]=y at *
   have hti:tileIn d (y / 2)=true:=tileIn_iff.2 ⟨hc.dev,by omega,by omega⟩
   have hlf:=(le_fit (e:=y % 2) hc hti (by omega)).1
   rw [h4,hfst]
   unfold ltOf
   simp only [selTo_length]
   refine ⟨Nat.le_refl _,⟨hlf.mask.1,by have:=hlf.mask.2;show (leX ts y).mask<65536;have e:leX ts y=leAt ts (y / 2) (y % 2):=rfl;rw [e];omega⟩,fun n hn=>?_⟩
   simp only [selTo,List.mem_map] at hn
   obtain ⟨j,hj,rfl⟩:=hn
   unfold known knownTo at h3
   rw [List.all_eq_true] at h3
   have h0:0≤selN d ts (pl.take i) y j:=by simpa using h3 j hj
   exact ⟨h0,selN_lt (by rw [List.length_take];omega) h0⟩
 ·cases hp
end Go.Proofs.YtignkfhdkcgkgaaGreat
