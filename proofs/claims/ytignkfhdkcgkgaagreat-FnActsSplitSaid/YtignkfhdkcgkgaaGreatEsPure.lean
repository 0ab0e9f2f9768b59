/- Undetermined: how many nodes have no value: the program. -/
import Derived.Deep.CutBlock
import Derived.Deep.CutRange
import Derived.Deep.DeepCutAuto
import Derived.Test.YtignkfhdkcgkgaaGreatStartS
import Derived.Test.YtignkfhdkcgkgaaGreatValS2
namespace Go.Proofs.YtignkfhdkcgkgaaGreat
set_option maxHeartbeats 1000000
set_option maxRecDepth 100000
open Go.RowKit
theorem Bh {d:Dev} {ts:List aZ} {m k:Nat} (h:k<m) {e:Nat} (he:e<2):(fG d ts m)[2 * k+e]?.getD 0=(jU d k (ts[k]?.getD aZ.zero))[e]?.getD 0:=by
 induction m with
 | zero=>omega
 | succ m ih =>
  rw [fG]
  rcases Nat.lt_or_ge k m with hk|hk
  ·rw [List.getElem?_append_left (by rw [ek];omega)]
   exact ih hk
  ·have:k=m:=by omega
   subst this
   rw [List.getElem?_append_right (by rw [ek];omega),ek,show 2 * k+e - 2 * k=e by omega]
def kM (d:Dev) (ps:List Int):Bool:=bJ ps (d.W * d.H) 1
theorem F5 {ws:List Int} {most:Int} (h:ku ws most=true) (hm:0<=most) (k:Nat):0<=ws[k]?.getD 0/\ws[k]?.getD 0<=most:=by
 rcases Nat.lt_or_ge k ws.length with hk|hk
 ·exact lJ h hk
 ·rw [List.getElem?_eq_none hk];exact ⟨Int.le_refl _,hm⟩
theorem xB {d:Dev} {ps:List Int} (h:kM d ps=true):(ps.length:Int)=d.W * d.H/\ku ps 1=true:=by
 unfold kM bJ at h
 rw [Bool.and_eq_true,decide_eq_true_eq] at h
 exact h
theorem oL {d:Dev} {st:List Int} (h:ja d st=true):st.length=2 * tiles d:=by
 simp only [ja,Bool.and_eq_true,decide_eq_true_eq] at h
 exact h.2.1
theorem EJ (d:Dev) (i:Nat):0<=dV d i:=by unfold dV;split <;> (try split) <;> omega
theorem qd {d:Dev} {st:List Int} (h:ja d st=true) (i:Nat):0<=st[i]?.getD 0/\st[i]?.getD 0<=dV d i:=by
 rcases Nat.lt_or_ge i st.length with hk|hk
 ·simp only [ja,Bool.and_eq_true,List.all_eq_true,List.mem_range] at h
  exact aa.1 (h.2.2 i hk)
 ·rw [List.getElem?_eq_none hk];exact ⟨Int.le_refl _,EJ d i⟩
theorem yw {d:Dev} {ts:List aZ} {st ps:List Int} (hs:ja d st=true) (hp:kM d ps=true):lF d ts st ps:=by
 refine ⟨fun t _ _=>F5 (xB hp).2 (by omega) _,fun t e ht hk h0 h1=>?_,fun t ht hk=>?_⟩
 ·have ht0:=(aV.1 ht).2.1
  have h:=qd hs (2 * t+e).toNat
  unfold nv
  have hx:(((2 * t+e).toNat / 2:Nat):Int)=t:=by omega
  rw [dV,hx,if_pos hk] at h
  exact h
 ·have ht0:=(aV.1 ht).2.1
  have h:=qd hs (2 * t).toNat
  unfold nv
  have hx:(((2 * t).toNat / 2:Nat):Int)=t:=by omega
  rw [dV,hx,if_neg (by omega),if_pos ⟨hk,by omega⟩] at h
  exact h
theorem Jj {w:World} {c:Cel} {v:Value} (h:RdC w w.heap.size c v):RdC w.drew w.drew.heap.size c v:=RdC.keep (w:=w) (w':=w.drew) (B:=w.heap.size) (B':=w.heap.size) (Nat.le_refl _) (fun _ _=>rfl) h
theorem EK (d:Dev) (A:Option Addr) (n c:Nat) (ps:List Int) (w:World) (h:bN w A n ps) (hn:n<=1099511627776) (hd:bL d=true) :
  Calls Tryz.prog 164 #[.agg #[.int .i64 d.W,.int .i64 d.H,.int .i64 d.T,.int .i64 d.R],.slice A n c] w fun e w'=>e = .returned (.bool (kM d ps))/\Below w.heap.size w w':=by
 have hB0:Below w.heap.size w (w.alloc (.cells #[.int .i64 d.W,.int .i64 d.H,.int .i64 d.T,.int .i64 d.R] 25)):=aB (Below.refl _ _) _
 have HI:=Hd h
 have HE:Hid (kM d ps=bJ ps (d.W * d.H) 1):=rfl
 have e1:=(bO hd).1
 have hWH:=(bO hd).2
 rw [e1] at HE
 generalize tiles d=M at *
 have a3:IntKind.i64.wrap (M:Int)=(M:Int):=IntWalk.i64_in _ (by omega)
 clear h hd
 go_enter Tryz.func164,Tryz.ntmps164
 go_wp2_with fail
 refine (ng A n c ps _ _ _ (HI.out.below hB0) hn).mono ?_
 rintro e w1 ⟨rfl,b1⟩
 go_wp2_with fail
 go_ret
 exact ⟨aI HE.out.symm,aA hB0 b1⟩
theorem vU (A:Option Addr) (n c:Nat) (ws:List Int) (count most:Int) (w:World) (h:bN w A n ws) (hn:n<=1099511627776) (hlen:(n:Int)=count) :
  Calls Tryz.prog 159 #[.slice A n c,.int .i64 count,.int .i64 most] w fun e w'=>e = .returned (.bool (ku ws most))/\Below w.heap.size w w':=by
 obtain ⟨hx,hA⟩:=h
 have HX:=Hd hx
 have hd:((n:Int)==count)=true:=by simp [hlen]
 have HN:=Hd hlen
 clear hx hlen
 go_enter Tryz.func159,Tryz.ntmps159
 go_wp2_with fail
 go_loop [7] (fun i=>∃k:Nat,k<=n/\i = .int .i64 k/\∀j,j<k→inR (ws[j]?.getD 0) 0 most=true) (fun i=>n - (intOf i).toNat)
 case atStart=>exact ⟨0,Nat.zero_le _,rfl,by intro j hj;omega⟩
 case round =>
  obtain ⟨k,hk,rfl,hall⟩:=hrel
  have HALL:=Hd hall
  clear hall
  by_cases hlt:k<n
  ·obtain ⟨b,o,rfl,hb,hc⟩:=hA (by omega)
   have hck:=hc k hlt
   clear hc
   have HB:Hid (inR (ws[k]?.getD 0) 0 most=false→ku ws most=false):=fun h=>vP (by rw [HX.out];exact hlt) h
   have HG:Hid (inR (ws[k]?.getD 0) 0 most=true→∀j,j<k+1→inR (ws[j]?.getD 0) 0 most=true):=fun h=>gZ HALL.out h
   generalize ws[k]?.getD 0=x at *
   cases hin:inR x 0 most with
   | true =>
    have HG':=Hd (HG.out hin)
    clear HG HB
    go_wp2_with (go_at_call 175;refine (aX _ _ _ _).mono ?_;rintro e w' ⟨rfl,rfl⟩)
    go_round
    case rel=>exact ⟨k+1,by omega,by go_num,HG'.out⟩
    case measure=>simp [intOf];omega
   | false =>
    have HB':=Hd (HB.out hin)
    clear HG HB
    go_wp2_with (go_at_call 175;refine (aX _ _ _ _).mono ?_;rintro e w' ⟨rfl,rfl⟩)
    go_ret
    exact ⟨aI (by rw [HB'.out]),Below.refl _ _⟩
  ·have hkn:k=n:=by omega
   subst hkn
   go_wp2
   go_ret
   exact ⟨aI (by rw [iZ (by rw [HX.out];exact HALL.out)]),Below.refl _ _⟩
theorem zz (d:Dev) (A:Option Addr) (n c:Nat) (ps:List Int) (w:World) (h:bN w A n ps) (hn:n<=1099511627776) (hd:bL d=true) :
  Calls Tryz.prog 157 #[.agg #[.int .i64 d.W,.int .i64 d.H,.int .i64 d.T,.int .i64 d.R],.slice A n c] w fun e w'=>e = .returned (.bool (kM d ps))/\Below w.heap.size w w':=by
 have hB0:Below w.heap.size w (w.alloc (.cells #[.int .i64 d.W,.int .i64 d.H,.int .i64 d.T,.int .i64 d.R] 25)):=aB (Below.refl _ _) _
 have HI:=Hd h
 have HX:=Hd h.1
 have HE:Hid (kM d ps=bJ ps (d.W * d.H) 1):=rfl
 have e1:=(bO hd).1
 have hWH:=(bO hd).2
 rw [e1] at HE
 generalize tiles d=M at *
 have a3:IntKind.i64.wrap (M:Int)=(M:Int):=IntWalk.i64_in _ (by omega)
 clear h hd
 by_cases hl:(n:Int)=(M:Int)
 ·have hd1:((n:Int)==(M:Int))=true:=by simp [hl]
  have HL:=Hd hl
  have HE2:Hid (kM d ps=ku ps 1):=by show _=_;rw [HE.out,bJ,HX.out,decide_eq_true hl];rfl
  clear hl
  go_enter Tryz.func157,Tryz.ntmps157
  go_wp2_with fail
  refine (vU A n c ps _ _ _ (HI.out.below hB0) hn HL.out).mono ?_
  rintro e w1 ⟨rfl,b1⟩
  go_wp2_with fail
  go_ret
  exact ⟨aI HE2.out.symm,aA hB0 b1⟩
 ·have hd1:((n:Int)==(M:Int))=false:=by simp [hl]
  have HE2:Hid (kM d ps=false):=by show _=_;rw [HE.out,bJ,HX.out,decide_eq_false hl];rfl
  clear hl
  go_enter Tryz.func157,Tryz.ntmps157
  go_wp2_with fail
  go_ret
  exact ⟨aI HE2.out.symm,hB0⟩
def EL (v a:Nat):Nat:=v / 2 * 2+v / 2 ^ a % 2
def kN (v i:Nat):Nat:=if i / 8 % 2=1 then EL v (i % 4+1) - EL v (i % 4+1) / 2 ^ (i % 4+1) % 2 * 2 ^ (i % 4+1)+i / 4 % 2 * 2 ^ (i % 4+1) else EL v (i % 4+1)
theorem EM (v i:Nat) (hv:v<=31) (hi:i<=15):kN v i<=31:=by
 have h:∀v:Fin 32,∀i:Fin 16,kN v.val i.val<=31:=by decide +kernel
 exact h ⟨v,by omega⟩ ⟨i,by omega⟩
theorem Bi (w:World):Calls Tryz.prog 203 #[.int .i64 1] w fun e w'=>e = .returned (.int .i64 31)/\w'=w:=by
 go_enter Tryz.func203,Tryz.ntmps203
 go_wp2_with fail
 go_ret
 exact ⟨rfl,rfl⟩
theorem Bj (v i:Nat) (hv:v<=31) (hi:i<=15) (w:World) :
  Calls Tryz.prog 151 #[.int .i64 1,.int .i64 (v:Int),.int .i64 (i:Int)] w fun e w'=>e = .returned (.int .i64 (kN v i:Nat))/\w'=w:=by
 have hin:inR (v:Int) 0 31=true:=aa.2 ⟨by omega,by omega⟩
 go_enter Tryz.func151,Tryz.ntmps151
 go_wp2_with (first|(go_at_call 203;refine (Bi _).mono ?_;rintro e w' ⟨rfl,rfl⟩)|(go_at_call 116;refine (aN _ _ _ _).mono ?_;rintro e w' ⟨rfl,rfl⟩;rw [hin]))
 all_goals
  rename_i hc
  clear hin
  go_ret
  refine ⟨ag ?_,rfl⟩
  obtain ⟨v,rfl⟩:∃x:Fin 32,v=x.val:=⟨⟨v,by omega⟩,rfl⟩
  obtain ⟨i,rfl⟩:∃x:Fin 16,i=x.val:=⟨⟨i,by omega⟩,rfl⟩
  clear hv hi
  revert i v
  decide +kernel
theorem Ht {i:Nat} (hi:i<=15):bits .and .i64 (i:Int) 3=((i % 4:Nat):Int):=by
 have h:∀i:Fin 16,bits .and .i64 (i.val:Int) 3=((i.val % 4:Nat):Int):=by decide +kernel
 exact h ⟨i,by omega⟩
theorem AA (v i:Nat) (hv:v<=31) (hi:i<=15) (w:World) :
  Calls Tryz.prog 205 #[.int .i64 1,.int .i64 (v:Int),.int .i64 (i:Int)] w fun e w'=>e = .returned (.int .i64 (kN v i:Nat))/\Below w.heap.size w w':=by
 have hin:inR (v:Int) 0 31=true:=aa.2 ⟨by omega,by omega⟩
 have hA:=Ht hi
 have ha:i % 4<=3:=by omega
 go_enter Tryz.func205,Tryz.ntmps205
 go_wp2_with (go_at_call 175;refine (aX _ _ _ _).mono ?_;rintro e w' ⟨rfl,rfl⟩;(try rw [hin]))
 ·go_quiet (fail)
  clear hin hA ha
  go_wp2_with fail
  rename_i hc
  go_ret
  refine ⟨ag ?_,ai (Below.refl _ _) _⟩
  obtain ⟨v,rfl⟩:∃x:Fin 32,v=x.val:=⟨⟨v,by omega⟩,rfl⟩
  obtain ⟨i,rfl⟩:∃x:Fin 16,i=x.val:=⟨⟨i,by omega⟩,rfl⟩
  clear hv hi
  revert i v
  decide +kernel
 ·rename_i hc
  clear hin hA ha
  go_ret
  refine ⟨ag ?_,Below.refl _ _⟩
  obtain ⟨v,rfl⟩:∃x:Fin 32,v=x.val:=⟨⟨v,by omega⟩,rfl⟩
  obtain ⟨i,rfl⟩:∃x:Fin 16,i=x.val:=⟨⟨i,by omega⟩,rfl⟩
  clear hv hi
  revert i v
  decide +kernel
def mx (x:Int):Int:=if 0<x then x else 0
def oM (d:Dev) (vs:List Int) (t:Int):Nat→Nat
 | 0=>0
 | k+1=>oM d vs t k+(mx (nv vs (t * aM d+(k:Int)))).toNat * 2 ^ k
theorem Hu {vs:List Int} (h:In3 vs) (i:Int):0<=mx (nv vs i)/\mx (nv vs i)<=1:=by
 have:=Aa h i
 unfold mx;split <;> omega
theorem AB {d:Dev} {vs:List Int} (h:In3 vs) (t:Int) (k:Nat):oM d vs t k<2 ^ k:=by
 induction k with
 | zero=>simp [oM]
 | succ k ih =>
  have hm:=Hu h (t * aM d+(k:Int))
  rw [oM,Nat.pow_succ]
  have h2:(mx (nv vs (t * aM d+(k:Int)))).toNat * 2 ^ k<=1 * 2 ^ k:=Nat.mul_le_mul_right _ (by omega)
  omega
def uH (d:Dev) (ts:List aZ) (vs:List Int) (k:Nat) (l:List Int) (e:Nat):List Int :=
 if (fe ts (k:Int) (e:Int)).flop=1 then l.set (2 * k+e) (mx (mJ d vs (k:Int) (fe ts (k:Int) (e:Int)))) else l
def ed (d:Dev) (ts:List aZ) (vs:List Int) (k:Nat) (l:List Int):Nat→List Int
 | 0=>l
 | e+1=>uH d ts vs k (ed d ts vs k l e) e
def nx1 (d:Dev) (ts:List aZ) (st vs:List Int) (k:Nat) (l:List Int):List Int :=
 if bA d (k:Int)=1 then ed d ts vs k l 2
 else if bA d (k:Int)=2 then l.set (2 * k) ((kN (st[2 * k]?.getD 0).toNat (oM d vs (k:Int) 4):Nat):Int) else l
def bQ (d:Dev) (ts:List aZ) (st vs:List Int):Nat→List Int
 | 0=>st
 | k+1=>nx1 d ts st vs k (bQ d ts st vs k)
def ou1 (d:Dev) (ts:List aZ) (vs:List Int) (k:Nat) (l:List Int):List Int :=
 if bA d (k:Int)=0/\(ts[k]?.getD aZ.zero).pad=2 then l.set k (mx (nv vs ((k:Int) * aM d))) else l
def df (d:Dev) (ts:List aZ) (vs:List Int) (m:Nat):Nat→List Int
 | 0=>List.replicate m 0
 | k+1=>ou1 d ts vs k (df d ts vs m k)
theorem xC (d:Dev) (ts:List aZ) (vs:List Int) (k:Nat) (l:List Int) (e:Nat):(uH d ts vs k l e).length=l.length:=by unfold uH;split <;> simp
theorem yN (d:Dev) (ts:List aZ) (vs:List Int) (k:Nat) (l:List Int) (e:Nat):(ed d ts vs k l e).length=l.length:=by
 induction e with
 | zero=>rfl
 | succ e ih=>rw [ed,xC,ih]
theorem lU (d:Dev) (ts:List aZ) (st vs:List Int) (k:Nat):(bQ d ts st vs k).length=st.length:=by
 induction k with
 | zero=>rfl
 | succ k ih=>rw [bQ,nx1];split <;> (try split) <;> simp [yN,ih]
theorem AC (d:Dev) (ts:List aZ) (vs:List Int) (m k:Nat):(df d ts vs m k).length=m:=by
 induction k with
 | zero=>simp [df]
 | succ k ih=>rw [df,ou1];split <;> simp [ih]
def nU (d:Dev) (ts:List aZ) (st ps:List Int):List Int:=bQ d ts st (nW d ts st ps) ts.length
def uz (d:Dev) (ts:List aZ) (st ps:List Int):List Int:=df d ts (nW d ts st ps) ts.length ts.length
theorem vB {d:Dev} {ts:List aZ} {st ps:List Int} (h:lF d ts st ps):In3 (nW d ts st ps):=EU h _ _
def Bl (lo hi:Nat) (A1 A2:Option Addr):Prop:=∃mid,lo<=mid/\mid<=hi/\ig A1 lo mid/\ig A2 mid hi
theorem Bl.nil {lo hi:Nat} (h:lo<=hi):Bl lo hi none none:=⟨lo,Nat.le_refl _,h,by rintro a ⟨⟩,by rintro a ⟨⟩⟩
theorem Bl.more {lo lo' hi hi':Nat} {A1 A2:Option Addr} (h:Bl lo hi A1 A2) (h1:lo'<=lo) (h2:hi<=hi'):Bl lo' hi' A1 A2:=by
 obtain ⟨mid,a,b,c,e⟩:=h
 exact ⟨mid,by omega,by omega,fun x hx=>⟨by have:=(c x hx).1;omega,(c x hx).2⟩,fun x hx=>⟨(e x hx).1,by have:=(e x hx).2;omega⟩⟩
end Go.Proofs.YtignkfhdkcgkgaaGreat
