/- The program's test whether a network of look-up tables is valid: of networks that are. -/
import Derived.Test.YtofihjoanjkdmaaGreatLayP2
import Derived.Test.YtofihjoanjkdmaaGreatNetRd
import Derived.Test.YtofihjoanjkdmaaGreatQb
namespace Go.Proofs.YtofihjoanjkdmaaGreat
set_option maxHeartbeats 4000000
set_option maxRecDepth 100000
open Go.RowKit
theorem vo (l:ai) (SA LA OA:Option Addr) (sn sc ln lc on oc:Nat) (w:World) (hi:0<=l.inputs/\l.inputs<=20) (h1:sn<=12) (h2:ln<=400) (h3:on<=16) :
  Calls Tryz.prog 174 #[jI l SA LA OA sn sc ln lc on oc] w fun e w'=>e = .returned (.int .i64 (1+l.inputs+(sn:Int)+(ln:Int)))/\Below w.heap.size w w':=by
 have g:=Hd (aD (Below.refl w.heap.size w) (.cells (ak l SA LA OA sn sc ln lc on oc) 41))
 have u:Hid (inR l.inputs 0 20=true):=aU.2 hi
 have z:decide ((12:Int)<(sn:Int))=false:=decide_eq_false (by omega)
 have G:decide ((400:Int)<(ln:Int))=false:=decide_eq_false (by omega)
 have H:decide ((16:Int)<(on:Int))=false:=decide_eq_false (by omega)
 go_enter Tryz.func174,Tryz.ntmps174
 go_wp2_with fail
 refine (aM l.inputs 0 20 _).mono ?_
 rw [u.out]
 rintro _ B ⟨rfl,rfl⟩
 go_wp2_with fail
 refine (su l.inputs SA LA OA sn sc ln lc on oc _ hi.1 (by omega) (by omega) (by omega)).mono ?_
 rintro _ D ⟨rfl,q⟩
 have j:=Hd (aA g.out q)
 clear q
 go_wp2_with fail
 go_ret
 exact ⟨rfl,j.out⟩
theorem Bv (m:Int) (w:World) (q:0<=m/\m<=1) :
  Calls Tryz.prog 178 #[.agg #[.int .i64 0,.int .i64 m]] w fun e w'=>e = .returned (.bool true)/\Below w.heap.size w w':=by
 have g:=Hd (aD (Below.refl w.heap.size w) (.cells #[.int .i64 0,.int .i64 m] 188))
 have z:Hid (inR 0 0 4=true):=by show _=_;decide
 have j:Hid (inR m 0 1=true):=aU.2 q
 clear q
 go_enter Tryz.func178,Tryz.ntmps178
 go_wp2_with fail
 refine (aM _ 0 4 _).mono ?_
 rw [z.out]
 rintro _ u ⟨rfl,rfl⟩
 go_wp2_with fail
 refine (aM m 0 1 _).mono ?_
 rw [j.out]
 rintro _ u ⟨rfl,rfl⟩
 go_wp2_with fail
 go_ret
 exact ⟨rfl,g.out⟩
theorem Bw (m:Int) (w:World) (q:0<=m/\m<=3) :
  Calls Tryz.prog 178 #[.agg #[.int .i64 1,.int .i64 m]] w fun e w'=>e = .returned (.bool true)/\Below w.heap.size w w':=by
 have g:=Hd (aD (Below.refl w.heap.size w) (.cells #[.int .i64 1,.int .i64 m] 188))
 have z:Hid (inR 1 0 4=true):=by show _=_;decide
 have j:Hid (inR m 0 3=true):=aU.2 q
 clear q
 go_enter Tryz.func178,Tryz.ntmps178
 go_wp2_with fail
 refine (aM _ 0 4 _).mono ?_
 rw [z.out]
 rintro _ u ⟨rfl,rfl⟩
 go_wp2_with fail
 refine (aM m 0 3 _).mono ?_
 rw [j.out]
 rintro _ u ⟨rfl,rfl⟩
 go_wp2_with fail
 go_ret
 exact ⟨rfl,g.out⟩
theorem Bz (m:Int) (w:World) (q:0<=m/\m<=15) :
  Calls Tryz.prog 178 #[.agg #[.int .i64 2,.int .i64 m]] w fun e w'=>e = .returned (.bool true)/\Below w.heap.size w w':=by
 have g:=Hd (aD (Below.refl w.heap.size w) (.cells #[.int .i64 2,.int .i64 m] 188))
 have z:Hid (inR 2 0 4=true):=by show _=_;decide
 have j:Hid (inR m 0 15=true):=aU.2 q
 clear q
 go_enter Tryz.func178,Tryz.ntmps178
 go_wp2_with fail
 refine (aM _ 0 4 _).mono ?_
 rw [z.out]
 rintro _ u ⟨rfl,rfl⟩
 go_wp2_with fail
 refine (aM m 0 15 _).mono ?_
 rw [j.out]
 rintro _ u ⟨rfl,rfl⟩
 go_wp2_with fail
 go_ret
 exact ⟨rfl,g.out⟩
theorem CB (m:Int) (w:World) (q:0<=m/\m<=255) :
  Calls Tryz.prog 178 #[.agg #[.int .i64 3,.int .i64 m]] w fun e w'=>e = .returned (.bool true)/\Below w.heap.size w w':=by
 have g:=Hd (aD (Below.refl w.heap.size w) (.cells #[.int .i64 3,.int .i64 m] 188))
 have z:Hid (inR 3 0 4=true):=by show _=_;decide
 have j:Hid (inR m 0 255=true):=aU.2 q
 clear q
 go_enter Tryz.func178,Tryz.ntmps178
 go_wp2_with fail
 refine (aM _ 0 4 _).mono ?_
 rw [z.out]
 rintro _ u ⟨rfl,rfl⟩
 go_wp2_with fail
 refine (aM m 0 255 _).mono ?_
 rw [j.out]
 rintro _ u ⟨rfl,rfl⟩
 go_wp2_with fail
 go_ret
 exact ⟨rfl,g.out⟩
theorem CE (m:Int) (w:World) (q:0<=m/\m<=65535) :
  Calls Tryz.prog 178 #[.agg #[.int .i64 4,.int .i64 m]] w fun e w'=>e = .returned (.bool true)/\Below w.heap.size w w':=by
 have g:=Hd (aD (Below.refl w.heap.size w) (.cells #[.int .i64 4,.int .i64 m] 188))
 have z:Hid (inR 4 0 4=true):=by show _=_;decide
 have j:Hid (inR m 0 65535=true):=aU.2 q
 clear q
 go_enter Tryz.func178,Tryz.ntmps178
 go_wp2_with fail
 refine (aM _ 0 4 _).mono ?_
 rw [z.out]
 rintro _ u ⟨rfl,rfl⟩
 go_wp2_with fail
 refine (aM m 0 65535 _).mono ?_
 rw [j.out]
 rintro _ u ⟨rfl,rfl⟩
 go_wp2_with fail
 go_ret
 exact ⟨rfl,g.out⟩
theorem yX (n:Nat) (m:Int) (w:World) (hn:n<=4) (g:0<=m/\m<2 ^ 2 ^ n) :
  Calls Tryz.prog 178 #[.agg #[.int .i64 (n:Int),.int .i64 m]] w fun e w'=>e = .returned (.bool true)/\Below w.heap.size w w':=by
 have hc:n=0∨n=1∨n=2∨n=3∨n=4:=by omega
 rcases hc with rfl|rfl|rfl|rfl|rfl
 ·exact Bv m w ⟨g.1,by have h:=g.2;simp at h;omega⟩
 ·exact Bw m w ⟨g.1,by have h:=g.2;simp at h;omega⟩
 ·exact Bz m w ⟨g.1,by have h:=g.2;simp at h;omega⟩
 ·exact CB m w ⟨g.1,by have h:=g.2;simp at h;omega⟩
 exact CE m w ⟨g.1,by have h:=g.2;simp at h;omega⟩
theorem kW (g:Int) (SA LA OA:Option Addr) (sn sc ln lc on oc:Nat) (w:World) (h0:0<=g) (h1:g<=1099511627776) (h2:sn<=1099511627776) :
  Calls Tryz.prog 177 #[.agg #[.int .i64 g,.slice SA sn sc,.slice LA ln lc,.slice OA on oc]] w fun e w'=>e = .returned (.int .i64 (1+g+(sn:Int)))/\Below w.heap.size w w':=by
 go_enter Tryz.func177,Tryz.ntmps177
 go_wp2
 go_ret
 exact ⟨rfl,aD (Below.refl _ _) _⟩
noncomputable def tb (P:Prop):Bool:=@decide P (Classical.propDecidable P)
theorem ae {P:Prop} (h:P):tb P=true:=by unfold tb;exact @decide_eq_true P (Classical.propDecidable P) h
theorem bJ {P:Prop} (h:¬P):tb P=false:=by unfold tb;exact @decide_eq_false P (Classical.propDecidable P) h
theorem dU {P:Prop} (h:P):Ending.returned (.bool true) = .returned (.bool (tb P)):=by rw [ae h]
theorem aO {P:Prop} (h:¬P):Ending.returned (.bool false) = .returned (.bool (tb P)):=by rw [bJ h]
def jr (xs:List Int) (m:Int):Prop:=∀x∈xs,0<=x/\x<m
def jv (k y:Int) (n:Nat):Prop:=k=0/\(0<=y/\y<=1)/\n=1∨k=1/\(0<=y/\y<=31)/\n=4
def iP (n:Nat) (m:Int):Prop:=n<=4/\0<=m/\m<2 ^ 2 ^ n
theorem nD (A:Option Addr) (n c:Nat) (xs:List Int) (m:Int) (w:World) (h:dE w A n xs) (hn:n<=1048576) (Z:0<=m/\m<=1048576) :
  Calls Tryz.prog 175 #[.slice A n c,.int .i64 m] w fun e w'=>e = .returned (.bool (tb (jr xs m)))/\w=w':=by
 have R:=Hd h
 clear h
 go_enter Tryz.func175,Tryz.ntmps175
 go_wp2_with fail
 go_loopw [9] (fun i wr=>∃k:Nat,k<=n/\i = .int .i64 (k:Int)/\w=wr/\∀j,j<k→0<=xs[j]?.getD 0/\xs[j]?.getD 0<m) (fun i _=>n - (intOf i).toNat)
 ·exact ⟨0,by omega,rfl,rfl,fun j hj=>by omega⟩
 obtain ⟨k,hk,rfl,rfl,q⟩:=hrel
 have u:=Hd q
 clear q
 by_cases B:k<n
 ·have J:=dT (by omega:k<n)
  obtain ⟨b,o,rfl,Y,hc⟩:=R.out.2 (by omega)
  have G:=hc k B
  have z:k<xs.length:=by rw [R.out.1];exact B
  have K:=Hd (List.getElem_mem z)
  have D:Hid (0<=xs[k]?.getD 0/\xs[k]?.getD 0<m→∀j,j<k+1→0<=xs[j]?.getD 0/\xs[j]?.getD 0<m):=fun h=>bU u.out h
  rw [List.getElem?_eq_getElem z,Option.getD_some] at G D
  generalize xs[k]=x at *
  obtain ⟨V,W⟩:=ib (by omega:k<n)
  clear hc
  by_cases g:0<=x/\x<m
  ·have H:Hid (inR x 0 (m - 1)=true):=aU.2 ⟨g.1,by have:=g.2;omega⟩
   have I:=Hd (D.out g)
   clear g D
   go_wp2_with fail
   refine (aM x 0 (m - 1) _).mono ?_
   rw [H.out]
   rintro _ w' ⟨rfl,rfl⟩
   go_wp2_with fail
   go_roundw
   ·exact ⟨k+1,by omega,by go_num,by first|rfl|trivial,I.out⟩
   simp [intOf];omega
  have H:Hid (inR x 0 (m - 1)=false):=by
   show _=_
   cases h:inR x 0 (m - 1) with
   | false=>rfl
   | true=>exact absurd (by have:=aU.1 h;omega) g
  have U:Hid (¬jr xs m):=fun h=>g (h x K.out)
  clear g D
  go_wp2_with fail
  refine (aM x 0 (m - 1) _).mono ?_
  rw [H.out]
  rintro _ w' ⟨rfl,rfl⟩
  go_wp2_with fail
  go_ret
  exact ⟨aO U.out,rfl⟩
 have Q:k=n:=by omega
 subst Q
 have J:decide ((k:Int)<(k:Int))=false:=by simp
 go_wp2_with fail
 go_ret
 refine ⟨dU fun x g=>?_,rfl⟩
 obtain ⟨j,hj,rfl⟩:=List.getElem_of_mem g
 have:=u.out j (by rw [←R.out.1];exact hj)
 rwa [List.getElem?_eq_getElem hj,Option.getD_some] at this
theorem CF (k y:Int) (A:Option Addr) (n c:Nat) (w:World) :
  Calls Tryz.prog 176 #[.agg #[.int .i64 k,.int .i64 y,.slice A n c]] w fun e w'=>e = .returned (.bool (tb (jv k y n)))/\Below w.heap.size w w':=by
 have j:=Hd (aD (Below.refl w.heap.size w) (.cells #[.int .i64 k,.int .i64 y,.slice A n c] 91))
 by_cases h0:k=0
 ·subst h0
  cases hr:inR y 0 1 with
  | false =>
   have q:Hid (¬jv 0 y n):=by
    rintro (h|h)
    ·rw [aU.2 h.2.1] at hr;cases hr
    omega
   have u:=Hd hr
   clear hr
   go_enter Tryz.func176,Tryz.ntmps176
   go_wp2_with fail
   refine (aM y 0 1 _).mono ?_
   rw [u.out]
   rintro _ z ⟨rfl,rfl⟩
   go_wp2_with fail
   go_ret
   exact ⟨aO q.out,j.out⟩
  | true =>
   have u:=Hd hr
   clear hr
   by_cases g:n=1
   ·have B:((n:Int)==1)=true:=by simp;omega
    have q:Hid (jv 0 y n) := .inl ⟨rfl,aU.1 u.out,g⟩
    clear g
    go_enter Tryz.func176,Tryz.ntmps176
    go_wp2_with fail
    refine (aM y 0 1 _).mono ?_
    rw [u.out]
    rintro _ z ⟨rfl,rfl⟩
    go_wp2_with fail
    go_ret
    exact ⟨dU q.out,j.out⟩
   have B:((n:Int)==1)=false:=by simp;omega
   have q:Hid (¬jv 0 y n):=by
    rintro (h|h)
    ·exact g h.2.2
    omega
   clear g
   go_enter Tryz.func176,Tryz.ntmps176
   go_wp2_with fail
   refine (aM y 0 1 _).mono ?_
   rw [u.out]
   rintro _ z ⟨rfl,rfl⟩
   go_wp2_with fail
   go_ret
   exact ⟨aO q.out,j.out⟩
 by_cases h1:k=1
 ·subst h1
  cases hr:inR y 0 31 with
  | false =>
   have q:Hid (¬jv 1 y n):=by
    rintro (h|h)
    ·omega
    rw [aU.2 h.2.1] at hr;cases hr
   have u:=Hd hr
   clear hr h0
   go_enter Tryz.func176,Tryz.ntmps176
   go_wp2_with fail
   refine (aM y 0 31 _).mono ?_
   rw [u.out]
   rintro _ z ⟨rfl,rfl⟩
   go_wp2_with fail
   go_ret
   exact ⟨aO q.out,j.out⟩
  | true =>
   have u:=Hd hr
   clear hr h0
   by_cases g:n=4
   ·have B:((n:Int)==4)=true:=by simp;omega
    have q:Hid (jv 1 y n) := .inr ⟨rfl,aU.1 u.out,g⟩
    clear g
    go_enter Tryz.func176,Tryz.ntmps176
    go_wp2_with fail
    refine (aM y 0 31 _).mono ?_
    rw [u.out]
    rintro _ z ⟨rfl,rfl⟩
    go_wp2_with fail
    go_ret
    exact ⟨dU q.out,j.out⟩
   have B:((n:Int)==4)=false:=by simp;omega
   have q:Hid (¬jv 1 y n):=by
    rintro (h|h)
    ·omega
    exact g h.2.2
   clear g
   go_enter Tryz.func176,Tryz.ntmps176
   go_wp2_with fail
   refine (aM y 0 31 _).mono ?_
   rw [u.out]
   rintro _ z ⟨rfl,rfl⟩
   go_wp2_with fail
   go_ret
   exact ⟨aO q.out,j.out⟩
 have H:(k==0)=false:=by simp;omega
 have B:(k==1)=false:=by simp;omega
 have D:((0:Int)==k)=false:=by simp;omega
 have G:((1:Int)==k)=false:=by simp;omega
 have q:Hid (¬jv k y n):=by
  rintro (h|h)
  ·exact h0 h.1
  exact h1 h.1
 clear h0 h1
 go_enter Tryz.func176,Tryz.ntmps176
 go_wp2_with fail
 go_ret
 exact ⟨aO q.out,j.out⟩
theorem yY (m:Int) (w:World) (q:¬(0<=m/\m<=1)) :
  Calls Tryz.prog 178 #[.agg #[.int .i64 0,.int .i64 m]] w fun e w'=>e = .returned (.bool false)/\Below w.heap.size w w':=by
 have g:=Hd (aD (Below.refl w.heap.size w) (.cells #[.int .i64 0,.int .i64 m] 188))
 have z:Hid (inR 0 0 4=true):=by show _=_;decide
 have j:Hid (inR m 0 1=false):=by
  show _=_
  cases h:inR m 0 1 with
  | false=>rfl
  | true=>exact absurd (aU.1 h) q
 clear q
 go_enter Tryz.func178,Tryz.ntmps178
 go_wp2_with fail
 refine (aM _ 0 4 _).mono ?_
 rw [z.out]
 rintro _ u ⟨rfl,rfl⟩
 go_wp2_with fail
 refine (aM m 0 1 _).mono ?_
 rw [j.out]
 rintro _ u ⟨rfl,rfl⟩
 go_wp2_with fail
 go_ret
 exact ⟨rfl,g.out⟩
theorem yZ (m:Int) (w:World) (q:¬(0<=m/\m<=3)) :
  Calls Tryz.prog 178 #[.agg #[.int .i64 1,.int .i64 m]] w fun e w'=>e = .returned (.bool false)/\Below w.heap.size w w':=by
 have g:=Hd (aD (Below.refl w.heap.size w) (.cells #[.int .i64 1,.int .i64 m] 188))
 have z:Hid (inR 1 0 4=true):=by show _=_;decide
 have j:Hid (inR m 0 3=false):=by
  show _=_
  cases h:inR m 0 3 with
  | false=>rfl
  | true=>exact absurd (aU.1 h) q
 clear q
 go_enter Tryz.func178,Tryz.ntmps178
 go_wp2_with fail
 refine (aM _ 0 4 _).mono ?_
 rw [z.out]
 rintro _ u ⟨rfl,rfl⟩
 go_wp2_with fail
 refine (aM m 0 3 _).mono ?_
 rw [j.out]
 rintro _ u ⟨rfl,rfl⟩
 go_wp2_with fail
 go_ret
 exact ⟨rfl,g.out⟩
theorem yf (m:Int) (w:World) (q:¬(0<=m/\m<=15)) :
  Calls Tryz.prog 178 #[.agg #[.int .i64 2,.int .i64 m]] w fun e w'=>e = .returned (.bool false)/\Below w.heap.size w w':=by
 have g:=Hd (aD (Below.refl w.heap.size w) (.cells #[.int .i64 2,.int .i64 m] 188))
 have z:Hid (inR 2 0 4=true):=by show _=_;decide
 have j:Hid (inR m 0 15=false):=by
  show _=_
  cases h:inR m 0 15 with
  | false=>rfl
  | true=>exact absurd (aU.1 h) q
 clear q
 go_enter Tryz.func178,Tryz.ntmps178
 go_wp2_with fail
 refine (aM _ 0 4 _).mono ?_
 rw [z.out]
 rintro _ u ⟨rfl,rfl⟩
 go_wp2_with fail
 refine (aM m 0 15 _).mono ?_
 rw [j.out]
 rintro _ u ⟨rfl,rfl⟩
 go_wp2_with fail
 go_ret
 exact ⟨rfl,g.out⟩
theorem yg (m:Int) (w:World) (q:¬(0<=m/\m<=255)) :
  Calls Tryz.prog 178 #[.agg #[.int .i64 3,.int .i64 m]] w fun e w'=>e = .returned (.bool false)/\Below w.heap.size w w':=by
 have g:=Hd (aD (Below.refl w.heap.size w) (.cells #[.int .i64 3,.int .i64 m] 188))
 have z:Hid (inR 3 0 4=true):=by show _=_;decide
 have j:Hid (inR m 0 255=false):=by
  show _=_
  cases h:inR m 0 255 with
  | false=>rfl
  | true=>exact absurd (aU.1 h) q
 clear q
 go_enter Tryz.func178,Tryz.ntmps178
 go_wp2_with fail
 refine (aM _ 0 4 _).mono ?_
 rw [z.out]
 rintro _ u ⟨rfl,rfl⟩
 go_wp2_with fail
 refine (aM m 0 255 _).mono ?_
 rw [j.out]
 rintro _ u ⟨rfl,rfl⟩
 go_wp2_with fail
 go_ret
 exact ⟨rfl,g.out⟩
theorem yh (m:Int) (w:World) (q:¬(0<=m/\m<=65535)) :
  Calls Tryz.prog 178 #[.agg #[.int .i64 4,.int .i64 m]] w fun e w'=>e = .returned (.bool false)/\Below w.heap.size w w':=by
 have g:=Hd (aD (Below.refl w.heap.size w) (.cells #[.int .i64 4,.int .i64 m] 188))
 have z:Hid (inR 4 0 4=true):=by show _=_;decide
 have j:Hid (inR m 0 65535=false):=by
  show _=_
  cases h:inR m 0 65535 with
  | false=>rfl
  | true=>exact absurd (aU.1 h) q
 clear q
 go_enter Tryz.func178,Tryz.ntmps178
 go_wp2_with fail
 refine (aM _ 0 4 _).mono ?_
 rw [z.out]
 rintro _ u ⟨rfl,rfl⟩
 go_wp2_with fail
 refine (aM m 0 65535 _).mono ?_
 rw [j.out]
 rintro _ u ⟨rfl,rfl⟩
 go_wp2_with fail
 go_ret
 exact ⟨rfl,g.out⟩
theorem yj (n:Nat) (m:Int) (w:World) (hn:n<=4) :
  Calls Tryz.prog 178 #[.agg #[.int .i64 (n:Int),.int .i64 m]] w fun e w'=>e = .returned (.bool (tb (iP n m)))/\Below w.heap.size w w':=by
 by_cases g:iP n m
 ·rw [ae g]
  exact yX n m w g.1 g.2
 rw [bJ g]
 have hc:n=0∨n=1∨n=2∨n=3∨n=4:=by omega
 rcases hc with rfl|rfl|rfl|rfl|rfl
 ·exact yY m w fun h=>g ⟨by omega,h.1,by have h2:=h.2;simp;omega⟩
 ·exact yZ m w fun h=>g ⟨by omega,h.1,by have h2:=h.2;simp;omega⟩
 ·exact yf m w fun h=>g ⟨by omega,h.1,by have h2:=h.2;simp;omega⟩
 ·exact yg m w fun h=>g ⟨by omega,h.1,by have h2:=h.2;simp;omega⟩
 exact yh m w fun h=>g ⟨by omega,h.1,by have h2:=h.2;simp;omega⟩
theorem xM (l:ai) (SA LA OA:Option Addr) (sn sc ln lc on oc:Nat) (w:World) (h:¬((0<=l.inputs/\l.inputs<=20)/\sn<=12/\ln<=400/\on<=16)) :
  Calls Tryz.prog 174 #[jI l SA LA OA sn sc ln lc on oc] w fun e w'=>e = .returned (.int .i64 0)/\Below w.heap.size w w':=by
 have g:=Hd (aD (Below.refl w.heap.size w) (.cells (ak l SA LA OA sn sc ln lc on oc) 41))
 cases hr:inR l.inputs 0 20 with
 | false =>
  have j:=Hd hr
  clear hr h
  go_enter Tryz.func174,Tryz.ntmps174
  go_wp2_with fail
  refine (aM l.inputs 0 20 _).mono ?_
  rw [j.out]
  rintro _ q ⟨rfl,rfl⟩
  go_wp2_with fail
  go_ret
  exact ⟨rfl,g.out⟩
 | true =>
  have j:=Hd hr
  have hi:=aU.1 hr
  clear hr
  by_cases h1:sn<=12
  ·have u:decide ((12:Int)<(sn:Int))=false:=decide_eq_false (by omega)
   by_cases h2:ln<=400
   ·have z:decide ((400:Int)<(ln:Int))=false:=decide_eq_false (by omega)
    have h3:¬on<=16:=fun h3=>h ⟨hi,h1,h2,h3⟩
    have B:decide ((16:Int)<(on:Int))=true:=decide_eq_true (by omega)
    clear h h1 h2 h3 hi
    go_enter Tryz.func174,Tryz.ntmps174
    go_wp2_with fail
    refine (aM l.inputs 0 20 _).mono ?_
    rw [j.out]
    rintro _ q ⟨rfl,rfl⟩
    go_wp2_with fail
    go_ret
    exact ⟨rfl,g.out⟩
   have z:decide ((400:Int)<(ln:Int))=true:=decide_eq_true (by omega)
   clear h h1 h2 hi
   go_enter Tryz.func174,Tryz.ntmps174
   go_wp2_with fail
   refine (aM l.inputs 0 20 _).mono ?_
   rw [j.out]
   rintro _ q ⟨rfl,rfl⟩
   go_wp2_with fail
   go_ret
   exact ⟨rfl,g.out⟩
  have u:decide ((12:Int)<(sn:Int))=true:=decide_eq_true (by omega)
  clear h h1 hi
  go_enter Tryz.func174,Tryz.ntmps174
  go_wp2_with fail
  refine (aM l.inputs 0 20 _).mono ?_
  rw [j.out]
  rintro _ q ⟨rfl,rfl⟩
  go_wp2_with fail
  go_ret
  exact ⟨rfl,g.out⟩
theorem pU (l:ai) (SA LA OA:Option Addr) (sn sc ln lc on oc:Nat) (w:World) (h:fo w l SA LA OA sn sc ln lc on oc) :
  Calls Tryz.prog 91 #[jI l SA LA OA sn sc ln lc on oc] w fun e w'=>e = .returned (.bool (tb (bA l)))/\Below w.heap.size w w':=by
 have u:=Hd (aD (Below.refl w.heap.size w) (.cells (ak l SA LA OA sn sc ln lc on oc) 41))
 have bn:=Hd (aI w (.cells (ak l SA LA OA sn sc ln lc on oc) 41))
 obtain ⟨aV,aU,a3⟩:=h.lens
 obtain ⟨HN,Q,Z,aY⟩:=hd4 h aV aU a3
 clear h aV aU a3
 by_cases hz:(0<=l.inputs/\l.inputs<=20)/\sn<=12/\ln<=400/\on<=16
 ·obtain ⟨aT,az,bs,bk⟩:=hz
  have HC:Hid ((l.count:Int)=1+l.inputs+(sn:Int)+(ln:Int)):=by show _=_;have:=Q.out;have:=Z.out;unfold ai.count ai.first;omega
  have a5:Hid ((l.first:Int)=1+l.inputs+(sn:Int)):=by show _=_;have:=Q.out;unfold ai.first;omega
  have bx:((1+l.inputs+(sn:Int)+(ln:Int))==0)=false:=by simp;omega
  have aW:Hid (0<=1+l.inputs+(sn:Int)+(ln:Int)/\1+l.inputs+(sn:Int)+(ln:Int)<=1048576):=⟨by omega,by omega⟩
  have ad:=Hd aT
  clear aT
  go_enter Tryz.func91,Tryz.ntmps91
  go_wp2_with fail
  refine (vo l SA LA OA sn sc ln lc on oc _ ad.out az bs bk).mono ?_
  rintro _ w1 ⟨rfl,b1⟩
  have B1:=Hd b1
  have aS:=Hd (aC b1 bn.out)
  obtain ⟨-,x1,x2,x3,lx⟩:=bX aS.out
  clear b1
  go_wp2_with fail
  refine (nD OA on oc l.outs _ _ (HN.out.below (aA u.out B1.out)).ou.ints (by omega) aW.out).mono ?_
  by_cases W:jr l.outs (1+l.inputs+(sn:Int)+(ln:Int))
  ·rw [ae W]
   have bo:=Hd W
   clear W
   rintro _ w2 ⟨rfl,rfl⟩
   go_wp2_with fail
   go_loopw [22] (fun i wr=>∃k:Nat,k<=sn/\i = .int .i64 (k:Int)/\Below w1.heap.size w1 wr/\∀j,j<k→jv (l.seqs[j]?.getD Sq.zero).kind (l.seqs[j]?.getD Sq.zero).init (l.seqs[j]?.getD Sq.zero).ins.length/\jr (l.seqs[j]?.getD Sq.zero).ins (1+l.inputs+(sn:Int)+(ln:Int))) (fun i _=>sn - (intOf i).toNat)
   ·exact ⟨0,by omega,rfl,Below.refl _ _,fun j hj=>by omega⟩
   obtain ⟨k,hk,rfl,hb,D⟩:=hrel
   obtain ⟨HB,z⟩:=hd2 hb D
   clear hb D
   by_cases aZ:k<sn
   ·have br:=dT (by omega:k<sn)
    have av:=Hd (HN.out.below (aA (aA u.out B1.out) HB.out))
    obtain ⟨b,o,S,m,p,rfl,bq,c0,c1,c2,r2⟩:=av.out.sq.sq' (k:=k) (by rw [Q.out];exact aZ)
    have hm:(l.seqs[k]?.getD Sq.zero).ins.length=m:=r2.ints.1
    have aJ:=Hd r2
    have HG:Hid (jv (l.seqs[k]?.getD Sq.zero).kind (l.seqs[k]?.getD Sq.zero).init m/\jr (l.seqs[k]?.getD Sq.zero).ins (1+l.inputs+(sn:Int)+(ln:Int))→∀j,j<k+1→jv (l.seqs[j]?.getD Sq.zero).kind (l.seqs[j]?.getD Sq.zero).init (l.seqs[j]?.getD Sq.zero).ins.length/\jr (l.seqs[j]?.getD Sq.zero).ins (1+l.inputs+(sn:Int)+(ln:Int))):=fun h=>bU z.out (by rw [hm];exact h)
    have q:Hid (¬(jv (l.seqs[k]?.getD Sq.zero).kind (l.seqs[k]?.getD Sq.zero).init m/\jr (l.seqs[k]?.getD Sq.zero).ins (1+l.inputs+(sn:Int)+(ln:Int)))→¬bA l):=fun h hf=>h (by
     have h1:=hf.seqs k (by rw [Q.out];exact aZ)
     rw [hm] at h1
     exact ⟨h1.1,by rw [←HC.out];exact h1.2⟩)
    generalize l.seqs[k]?.getD Sq.zero=s at *
    obtain ⟨i0,i1⟩:=ib (by omega:k<sn)
    clear r2 hm x1 x2 x3 lx
    go_wp2_with fail
    refine (CF s.kind s.init S m p _).mono ?_
    by_cases I:jv s.kind s.init m
    ·rw [ae I]
     have ar:m<=4:=by rcases I with h|h <;> omega
     have bm:=Hd I
     clear I
     rintro _ w3 ⟨rfl,b3⟩
     obtain ⟨-,-,y2,ly⟩:=jU (aC b3 (aI wr (.cells #[.int .i64 s.kind,.int .i64 s.init,.slice S m p] 91)))
     have ah:=Hd (aA (aD (Below.refl wr.heap.size wr) (.cells #[.int .i64 s.kind,.int .i64 s.init,.slice S m p] 91)) b3)
     clear b3 c0 c1 c2
     go_wp2_with fail
     refine (nD S m p s.ins _ _ (aJ.out.below ah.out).ints (by omega) aW.out).mono ?_
     by_cases g:jr s.ins (1+l.inputs+(sn:Int)+(ln:Int))
     ·rw [ae g]
      have aH:=Hd (HG.out ⟨bm.out,g⟩)
      clear g HG q
      rintro _ w4 ⟨rfl,rfl⟩
      clear y2 ly
      go_wp2_with fail
      go_roundw
      ·exact ⟨k+1,by omega,by go_num,aA HB.out ah.out,aH.out⟩
      simp [intOf];omega
     rw [bJ g]
     have Y:=Hd (q.out fun h=>g h.2)
     clear g HG q
     rintro _ w4 ⟨rfl,rfl⟩
     clear y2 ly
     go_wp2_with fail
     go_ret
     exact ⟨aO Y.out,aA (aA (aA u.out B1.out) HB.out) ah.out⟩
    rw [bJ I]
    have Y:=Hd (q.out fun h=>I h.1)
    clear I HG q
    rintro _ w3 ⟨rfl,b3⟩
    have ah:=Hd (aA (aD (Below.refl wr.heap.size wr) (.cells #[.int .i64 s.kind,.int .i64 s.init,.slice S m p] 91)) b3)
    clear b3 c0 c1 c2
    go_wp2_with fail
    go_ret
    exact ⟨aO Y.out,aA (aA (aA u.out B1.out) HB.out) ah.out⟩
   have br:=dF (by omega:sn<=k)
   have aG:k=sn:=by omega
   have bp:Hid (∀j,j<sn→jv (l.seqs[j]?.getD Sq.zero).kind (l.seqs[j]?.getD Sq.zero).init (l.seqs[j]?.getD Sq.zero).ins.length/\jr (l.seqs[j]?.getD Sq.zero).ins (1+l.inputs+(sn:Int)+(ln:Int))):=fun j hj=>z.out j (by omega)
   have a2:=Hd (aC HB.out aS.out)
   clear x1 x2 x3 lx z aG
   obtain ⟨-,-,x2,lx⟩:=jU a2.out
   obtain ⟨wo,rfl⟩:∃y,y=wr:=⟨wr,rfl⟩
   go_wp2_with fail
   go_loopw [40] (fun i wr=>∃k:Nat,k<=ln/\i = .int .i64 (k:Int)/\Below wo.heap.size wo wr/\∀j,j<k→iP (l.luts[j]?.getD Lt.zero).ins.length (l.luts[j]?.getD Lt.zero).mask/\jr (l.luts[j]?.getD Lt.zero).ins (1+l.inputs+(sn:Int)+(j:Int))) (fun i _=>ln - (intOf i).toNat)
   ·exact ⟨0,by omega,rfl,Below.refl _ _,fun j hj=>by omega⟩
   obtain ⟨k,hk,rfl,hb,D⟩:=hrel
   obtain ⟨R,z⟩:=hd2 hb D
   clear hb D x2 lx
   by_cases au:k<ln
   ·have a1:=dT (by omega:k<ln)
    have av:=Hd (HN.out.below (aA (aA (aA u.out B1.out) HB.out) R.out))
    have a0:=Hd (aC R.out a2.out)
    obtain ⟨b,o,S,m,p,rfl,bq,c0,c1,r2⟩:=av.out.lt.lut' (k:=k) (by rw [Z.out];exact au)
    have hm:(l.luts[k]?.getD Lt.zero).ins.length=m:=r2.ints.1
    have aJ:=Hd r2
    have HG:Hid (iP m (l.luts[k]?.getD Lt.zero).mask/\jr (l.luts[k]?.getD Lt.zero).ins (1+l.inputs+(sn:Int)+(k:Int))→∀j,j<k+1→iP (l.luts[j]?.getD Lt.zero).ins.length (l.luts[j]?.getD Lt.zero).mask/\jr (l.luts[j]?.getD Lt.zero).ins (1+l.inputs+(sn:Int)+(j:Int))):=fun h=>bU z.out (by rw [hm];exact h)
    have q:Hid (¬(iP m (l.luts[k]?.getD Lt.zero).mask/\jr (l.luts[k]?.getD Lt.zero).ins (1+l.inputs+(sn:Int)+(k:Int)))→¬bA l):=fun h hf=>h (by
     have h1:=hf.luts k (by rw [Z.out];exact au)
     rw [hm] at h1
     exact ⟨⟨h1.1,h1.2.1⟩,by rw [←a5.out];exact h1.2.2⟩)
    generalize l.luts[k]?.getD Lt.zero=s at *
    obtain ⟨i0,i1⟩:=ib (by omega:k<ln)
    clear r2 hm
    have U:=Hd (aD (Below.refl wr.heap.size wr) (.cells #[.slice S m p,.int .i64 s.mask] 96))
    obtain ⟨y0,y1,ly⟩:=fZ (aI wr (.cells #[.slice S m p,.int .i64 s.mask] 96))
    have a4:=aC U.out a0.out
    obtain ⟨x0,x1,x2,x3,lx⟩:=bX a4
    have bz:wr.heap.size≠w.heap.size:=by have:=aB a0.out;omega
    go_upto_region 13 with fail
    generalize wr.alloc (.cells #[.slice S m p,.int .i64 s.mask] 96)=H at *
    have ao:=Hd (fun (x:Sub H)=>kW l.inputs SA (some ⟨b,o,none⟩) OA sn sc ln lc on oc x.v ad.out.1 (by have:=ad.out;omega) (by omega))
    have bu:=ad.out.1
    have bv:=ad.out.2
    clear c0 c1 a4
    by_cases ar:m<=4
    ·have hd4:decide ((4:Int)<(m:Int))=false:=decide_eq_false (by omega)
     have G:=fun (x:Sub H)=>nD S m p s.ins (1+l.inputs+(sn:Int)+(k:Int)) x.v (aJ.out.below (aA U.out x.h)).ints (by omega) (by omega)
     have J:=fun (x:Sub H)=>yj m s.mask x.v ar
     by_cases g:jr s.ins (1+l.inputs+(sn:Int)+(k:Int))
     ·rw [ae g] at G
      by_cases V:iP m s.mask
      ·rw [ae V] at J
       obtain ⟨aj,aE⟩:=hd2 G J
       have aH:=Hd (HG.out ⟨V,g⟩)
       clear G J g V HG q
       have B:=aX H
       have K:=aP H
       refine wpB H ?_
       repeat (go_big_quiet_step ((first
        | (go_at_call 177;with_reducible exact aN (ao.out _))
        | (go_at_call 175;with_reducible exact aR (aj.out _))
        | (go_at_call 178;with_reducible exact aN (aE.out _)))))
       refine wpQuiet_nil ?_
       rintro _ ⟨⟨w5,hD⟩,rfl⟩
       clear B K
       have HD:=Hd (aA U.out hD)
       clear hD x0 x1 x2 x3 lx y0 y1 ly
       go_wp2_with fail
       go_roundw
       ·exact ⟨k+1,by omega,by go_num,aA R.out HD.out,aH.out⟩
       simp [intOf];omega
      rw [bJ V] at J
      obtain ⟨aj,aE⟩:=hd2 G J
      have Y:=Hd (q.out fun h=>V h.1)
      clear G J g V HG q
      have B:=aX H
      have K:=aP H
      refine wpB H ?_
      repeat (go_big_quiet_step ((first
       | (go_at_call 177;with_reducible exact aN (ao.out _))
       | (go_at_call 175;with_reducible exact aR (aj.out _))
       | (go_at_call 178;with_reducible exact aN (aE.out _)))))
      refine wpQuiet_nil ?_
      rintro _ ⟨⟨w5,hD⟩,rfl⟩
      clear B K
      have HD:=Hd (aA U.out hD)
      clear hD x0 x1 x2 x3 lx y0 y1 ly
      go_wp2_with fail
      go_ret
      exact ⟨aO Y.out,aA (aA (aA (aA u.out B1.out) HB.out) R.out) HD.out⟩
     rw [bJ g] at G
     have aj:=Hd G
     have Y:=Hd (q.out fun h=>g h.2)
     clear G J g HG q
     have B:=aX H
     have K:=aP H
     refine wpB H ?_
     repeat (go_big_quiet_step ((first
      | (go_at_call 177;with_reducible exact aN (ao.out _))
      | (go_at_call 175;with_reducible exact aR (aj.out _)))))
     refine wpQuiet_nil ?_
     rintro _ ⟨⟨w5,hD⟩,rfl⟩
     clear B K
     have HD:=Hd (aA U.out hD)
     clear hD x0 x1 x2 x3 lx y0 y1 ly
     go_wp2_with fail
     go_ret
     exact ⟨aO Y.out,aA (aA (aA (aA u.out B1.out) HB.out) R.out) HD.out⟩
    have hd4:decide ((4:Int)<(m:Int))=true:=decide_eq_true (by omega)
    have Y:=Hd (q.out fun h=>ar h.1.1)
    clear HG q ar
    have B:=aX H
    have K:=aP H
    refine wpB H ?_
    repeat (go_big_quiet_step ((first
     | (go_at_call 177;with_reducible exact aN (ao.out _)))))
    refine wpQuiet_nil ?_
    rintro _ ⟨⟨w5,hD⟩,rfl⟩
    clear B K
    have HD:=Hd (aA U.out hD)
    clear hD x0 x1 x2 x3 lx y0 y1 ly
    go_wp2_with fail
    go_ret
    exact ⟨aO Y.out,aA (aA (aA (aA u.out B1.out) HB.out) R.out) HD.out⟩
   have a1:=dF (by omega:ln<=k)
   have aG:k=ln:=by omega
   have bg:Hid (∀j,j<ln→iP (l.luts[j]?.getD Lt.zero).ins.length (l.luts[j]?.getD Lt.zero).mask/\jr (l.luts[j]?.getD Lt.zero).ins (1+l.inputs+(sn:Int)+(j:Int))):=fun j hj=>z.out j (by omega)
   have bl:=Hd (aA (aA (aA u.out B1.out) HB.out) R.out)
   have a7:Hid (bA l):=⟨ad.out,by have:=Q.out;omega,by have:=Z.out;omega,by have:=aY.out;omega,by have:=bo.out;rw [←HC.out] at this;exact this,fun i hi=>by have:=bp.out i (by rw [←Q.out];exact hi);rw [←HC.out] at this;exact this,fun i hi=>by have:=bg.out i (by rw [←Z.out];exact hi);rw [←a5.out] at this;exact ⟨this.1.1,this.1.2,this.2⟩⟩
   clear z aG
   go_wp2_with fail
   go_ret
   exact ⟨dU a7.out,bl.out⟩
  rw [bJ W]
  have Y:Hid (¬bA l):=fun hf=>W (by rw [←HC.out];exact hf.outs)
  clear W
  rintro _ w2 ⟨rfl,rfl⟩
  go_wp2_with fail
  go_ret
  exact ⟨aO Y.out,aA u.out B1.out⟩
 have Y:Hid (¬bA l):=fun hf=>hz ⟨hf.inp,by have:=hf.nseq;have:=Q.out;omega,by have:=hf.nlut;have:=Z.out;omega,by have:=hf.nout;have:=aY.out;omega⟩
 go_enter Tryz.func91,Tryz.ntmps91
 go_wp2_with fail
 refine (xM l SA LA OA sn sc ln lc on oc _ hz).mono ?_
 rintro _ w1 ⟨rfl,b1⟩
 have B1:=Hd b1
 clear b1 hz
 go_wp2_with fail
 go_ret
 exact ⟨aO Y.out,aA u.out B1.out⟩
theorem nE (A:Option Addr) (n c:Nat) (xs:List Int) (x:Int) (w:World) (h:dE w A n xs) (hn:n<=1048576) :
  Calls Tryz.prog 129 #[.slice A n c,.int .i64 x] w fun e w'=>e = .returned (.bool (decide (x∈xs)))/\w=w':=by
 have K:=Hd h
 clear h
 go_enter Tryz.func129,Tryz.ntmps129
 go_wp2_with fail
 go_loopw [9] (fun i wr=>∃k:Nat,k<=n/\i = .int .i64 (k:Int)/\w=wr/\∀j,j<k→xs[j]?.getD 0≠x) (fun i _=>n - (intOf i).toNat)
 ·exact ⟨0,by omega,rfl,rfl,fun j hj=>by omega⟩
 obtain ⟨k,hk,rfl,rfl,g⟩:=hrel
 have q:=Hd g
 clear g
 by_cases B:k<n
 ·have I:=dT (by omega:k<n)
  obtain ⟨b,o,rfl,Y,hc⟩:=K.out.2 (by omega)
  have D:=hc k B
  have z:k<xs.length:=by rw [K.out.1];exact B
  have R:=Hd (List.getElem_mem z)
  have G:Hid (xs[k]?.getD 0≠x→∀j,j<k+1→xs[j]?.getD 0≠x):=fun h=>bU q.out h
  rw [List.getElem?_eq_getElem z,Option.getD_some] at D G
  generalize xs[k]=y at *
  obtain ⟨U,W⟩:=ib (by omega:k<n)
  clear hc
  by_cases u:y=x
  ·subst u
   go_wp2_with fail
   go_ret
   exact ⟨cK (decide_eq_true R.out).symm,rfl⟩
  have H:=Hd (G.out u)
  have V:(y==x)=false:=by simp;omega
  clear u G
  go_wp2_with fail
  go_roundw
  ·exact ⟨k+1,by omega,by go_num,by first|rfl|trivial,H.out⟩
  simp [intOf];omega
 have J:k=n:=by omega
 subst J
 have I:decide ((k:Int)<(k:Int))=false:=by simp
 go_wp2_with fail
 go_ret
 refine ⟨cK (decide_eq_false fun Q=>?_).symm,rfl⟩
 obtain ⟨j,hj,rfl⟩:=List.getElem_of_mem Q
 exact q.out j (by rw [←K.out.1];exact hj) (by rw [List.getElem?_eq_getElem hj];rfl)
theorem nI (A:Option Addr) (n c:Nat) (xs:List Int) (x:Int) (w:World) (h:dE w A n xs) (hn:n<=1048576) :
  Calls Tryz.prog 208 #[.slice A n c,.int .i64 x] w fun e w'=>e = .returned (.bool (decide (x∈xs)))/\w=w':=by
 have K:=Hd h
 clear h
 go_enter Tryz.func208,Tryz.ntmps208
 go_wp2_with fail
 go_loopw [5] (fun i wr=>∃k:Nat,k<=n/\i = .int .i64 (k:Int)/\w=wr/\∀j,j<k→xs[j]?.getD 0≠x) (fun i _=>n - (intOf i).toNat)
 ·exact ⟨0,by omega,rfl,rfl,fun j hj=>by omega⟩
 obtain ⟨k,hk,rfl,rfl,g⟩:=hrel
 have q:=Hd g
 clear g
 by_cases B:k<n
 ·have I:=dT (by omega:k<n)
  obtain ⟨b,o,rfl,Y,hc⟩:=K.out.2 (by omega)
  have D:=hc k B
  have z:k<xs.length:=by rw [K.out.1];exact B
  have R:=Hd (List.getElem_mem z)
  have G:Hid (xs[k]?.getD 0≠x→∀j,j<k+1→xs[j]?.getD 0≠x):=fun h=>bU q.out h
  rw [List.getElem?_eq_getElem z,Option.getD_some] at D G
  generalize xs[k]=y at *
  obtain ⟨U,W⟩:=ib (by omega:k<n)
  clear hc
  by_cases u:y=x
  ·subst u
   go_wp2_with fail
   go_ret
   exact ⟨cK (decide_eq_true R.out).symm,rfl⟩
  have H:=Hd (G.out u)
  have V:(y==x)=false:=by simp;omega
  clear u G
  go_wp2_with fail
  go_roundw
  ·exact ⟨k+1,by omega,by go_num,by first|rfl|trivial,H.out⟩
  simp [intOf];omega
 have J:k=n:=by omega
 subst J
 have I:decide ((k:Int)<(k:Int))=false:=by simp
 go_wp2_with fail
 go_ret
 refine ⟨cK (decide_eq_false fun Q=>?_).symm,rfl⟩
 obtain ⟨j,hj,rfl⟩:=List.getElem_of_mem Q
 exact q.out j (by rw [←K.out.1];exact hj) (by rw [List.getElem?_eq_getElem hj];rfl)
theorem mJ (A:Option Addr) (n c:Nat) (xs:List Int) (w:World) (h:dE w A n xs) (hn:n<=1048576) :
  Calls Tryz.prog 124 #[.slice A n c] w fun e w'=>e = .returned (.bool (tb (∀k:Nat,k<n→xs[k]?.getD 0=1)))/\w=w':=by
 have Q:=Hd h
 clear h
 go_enter Tryz.func124,Tryz.ntmps124
 go_wp2_with fail
 go_loopw [7] (fun i wr=>∃k:Nat,k<=n/\i = .int .i64 (k:Int)/\w=wr/\∀j,j<k→xs[j]?.getD 0=1) (fun i _=>n - (intOf i).toNat)
 ·exact ⟨0,by omega,rfl,rfl,fun j hj=>by omega⟩
 obtain ⟨k,hk,rfl,rfl,q⟩:=hrel
 have u:=Hd q
 clear q
 by_cases B:k<n
 ·have H:=dT (by omega:k<n)
  obtain ⟨b,o,rfl,Y,hc⟩:=Q.out.2 (by omega)
  have J:=hc k B
  have D:Hid (xs[k]?.getD 0=1→∀j,j<k+1→xs[j]?.getD 0=1):=fun h=>bU u.out h
  have z:Hid (xs[k]?.getD 0≠1→¬∀j:Nat,j<n→xs[j]?.getD 0=1):=fun h K=>h (K k B)
  generalize xs[k]?.getD 0=y at *
  obtain ⟨U,W⟩:=ib (by omega:k<n)
  clear hc
  by_cases g:y=1
  ·have G:=Hd (D.out g)
   subst g
   clear D z
   go_wp2_with fail
   go_roundw
   ·exact ⟨k+1,by omega,by go_num,by first|rfl|trivial,G.out⟩
   simp [intOf];omega
  have R:=Hd (z.out g)
  have V:(y==1)=false:=by simp;omega
  clear g D z
  go_wp2_with fail
  go_ret
  exact ⟨aO R.out,rfl⟩
 have I:k=n:=by omega
 subst I
 have H:decide ((k:Int)<(k:Int))=false:=by simp
 go_wp2_with fail
 go_ret
 exact ⟨dU u.out,rfl⟩
theorem qX {l:ai} (hn:bA l) {e:LeT} (h:dQ l e):(qF l e).length<=4/\∀x∈qF l e,0<=x/\x<(l.count:Int):=by
 unfold qF
 split
 ·rename_i h0
  have h1:=h.lut.2
  have h2:=hn.luts e.lut.toNat (by omega)
  unfold ai.lut
  refine ⟨h2.1,fun x g=>?_⟩
  have h3:=h2.2.2 x g
  unfold ai.count
  omega
 rename_i h0
 have h1:=h.ff
 have h4:=h.lut.1
 have h5:=h.one
 have h2:=hn.seqs e.ff.toNat (by omega)
 unfold ai.sq
 exact ⟨by rcases h2.1 with h|h <;> omega,h2.2⟩
theorem mW {l:ai} (hn:bA l) {e:LeT} (h:dQ l e):(iB l e).length<=4/\∀x∈iB l e,0<x/\x<(l.count:Int):=by
 obtain ⟨h1,h2⟩:=qX hn h
 refine ⟨?_,fun x g=>?_⟩
 ·unfold iB
  have:=jQ ((qF l e).filter fun x=>decide (x≠0))
  have:=List.length_filter_le (fun x=>decide (x≠0)) (qF l e)
  omega
 obtain ⟨h3,h4⟩:=CZ.1 g
 have:=h2 x h3
 omega
theorem yl {l:ai} (hn:bA l) {b:Blk} (h:dI l b):(iy l b).length<=5:=by
 obtain ⟨hk,j⟩:=h
 unfold iy
 split
 ·simp
 split
 ·simp
 split
 ·rename_i h2
  rcases hk with h|h|h|h
  ·omega
  ·omega
  ·have h3:=hn.seqs b.item.toNat (by omega)
   unfold ai.sq
   rcases h3.1 with h|h <;> omega
  omega
 rcases j with h|h
 ·exact h.2.2.2
 exfalso
 rcases hk with g|g|g|g <;> omega
theorem ui {l:ai} {b:Blk} (h:dI l b):(jy l b).length<=2:=by
 obtain ⟨_,g⟩:=h
 unfold jy FD
 split
 ·simp
 split
 ·simp
 split
 ·simp
 rw [List.length_map]
 rcases g with h|h
 ·exact h.2.2.1.2
 rw [h.2.1];simp
theorem xN (g:List (List Int)) (i:Nat) (os:List Int) (p:Nat):(iK g i os p).length<=p:=by
 induction p with
 | zero=>simp [iK]
 | succ p ih=>rw [rJ,List.length_append];unfold vG;split <;> simp <;> omega
theorem qh {l:ai} {bs:List Blk} (h:∀b∈bs,dI l b) {i:Nat} (hi:i<=bs.length):(kr l bs i).length<=2 * i:=by
 induction i with
 | zero=>simp [kr]
 | succ i ih =>
  have h1:=ih (by omega)
  have h2:=xN (bs.map (iy l)) i (jy l (bs[i]?.getD Blk.zero)) (jy l (bs[i]?.getD Blk.zero)).length
  have h3:(jy l (bs[i]?.getD Blk.zero)).length<=2:=by
   rw [List.getElem?_eq_getElem (show i<bs.length by omega),Option.getD_some]
   exact ui (h _ (List.getElem_mem _))
  rw [qP,List.length_append]
  omega
/-! ### counting -/
theorem lZ {m:Nat} {xs:List Int}:(∀k:Nat,k<m→(aH m xs)[k]?.getD 0=1)↔sI m xs:=by
 unfold sI
 constructor
 ·intro h k hk
  have:=h k hk
  rw [jb xs hk] at this
  omega
 intro h k hk
 rw [jb xs hk,h k hk]
 rfl
theorem dX (k:Int) (bs:List Blk) (b:Blk):bC k (bs++[b])=bC k bs++if b.kind=k then [b.item] else []:=by simp [bC]
def ax (es:List LeT):List Int:=es.flatMap fun e=>if 0<=e.lut then [e.lut] else []
def bV (es:List LeT):List Int:=es.flatMap fun e=>if 0<=e.ff then [e.ff] else []
theorem jW (es:List LeT) (e:LeT):ax (es++[e])=ax es++if 0<=e.lut then [e.lut] else []:=by simp [ax]
theorem kK (es:List LeT) (e:LeT):bV (es++[e])=bV es++if 0<=e.ff then [e.ff] else []:=by simp [bV]
theorem jX (bs:List Blk) (b:Blk):eZ (bs++[b])=eZ bs++ax b.les:=by simp [eZ,ax]
theorem jY (bs:List Blk) (b:Blk):dw (bs++[b])=(dw bs++if b.kind=2 then [b.item] else [])++bV b.les:=by simp [dw,bV]
/-! ### placements -/
theorem kX {α β:Type} {f:α→List β} {m:Nat}:∀{xs:List α},(∀x∈xs,(f x).length<=m)→(xs.flatMap f).length<=xs.length * m
 | [],_=>by simp
 | x :: xs,h=>by
  rw [List.flatMap_cons,List.length_append,List.length_cons,Nat.succ_mul]
  have h1:=h x (by simp)
  have h2:=kX (xs:=xs) fun y g=>h y (by simp [g])
  omega
theorem jM {l:ai} (hn:bA l) (k:Nat):((l.luts.take k).flatMap Lt.ins).length<=1600:=by
 have h:=kX (f:=Lt.ins) (m:=4) (xs:=l.luts.take k) fun x g=>by
  obtain ⟨i,hi,rfl⟩:=List.getElem_of_mem (List.mem_of_mem_take g)
  have:=(hn.luts i hi).1
  rwa [List.getElem?_eq_getElem hi] at this
 have h2:(l.luts.take k).length<=l.luts.length:=by rw [List.length_take];omega
 have:=hn.nlut
 have:=Nat.mul_le_mul_right 4 h2
 omega
theorem mX {l:ai} (hn:bA l) (k:Nat):((l.seqs.take k).flatMap Sq.ins).length<=48:=by
 have h:=kX (f:=Sq.ins) (m:=4) (xs:=l.seqs.take k) fun x g=>by
  obtain ⟨i,hi,rfl⟩:=List.getElem_of_mem (List.mem_of_mem_take g)
  have:=(hn.seqs i hi).1
  rw [List.getElem?_eq_getElem hi] at this
  rcases this with h|h <;> simp only [Option.getD_some] at h <;> omega
 have h2:(l.seqs.take k).length<=l.seqs.length:=by rw [List.length_take];omega
 have:=hn.nseq
 have:=Nat.mul_le_mul_right 4 h2
 omega
def kY (l:ai):List Int:=l.luts.flatMap Lt.ins++l.seqs.flatMap Sq.ins++l.outs
theorem ym (l:ai) (n:Int):AY l n=cnt (kY l) n:=Eo l n
def lC (bs xs:List Int) (j:Nat):List Int:=bs++xs.take j
theorem mY (bs xs:List Int):lC bs xs 0=bs:=by simp [lC]
theorem mZ {bs xs:List Int} {n:Nat} (h:xs.length=n):lC bs xs n=bs++xs:=by rw [lC,List.take_of_length_le (by omega)]
theorem mf {bs xs:List Int} {j:Nat} (h:j<xs.length):lC bs xs j++[xs[j]?.getD 0]=lC bs xs (j+1):=by
 rw [lC,lC,bN (z:=0) h,List.append_assoc]
theorem oW (bs xs:List Int) (j:Nat):(lC bs xs j).length<=bs.length+xs.length:=by
 rw [lC,List.length_append,List.length_take];omega
theorem wU {l:ai} {k:Nat} (h:k<l.luts.length):(l.luts.take k).flatMap Lt.ins++(l.luts[k]?.getD Lt.zero).ins=(l.luts.take (k+1)).flatMap Lt.ins:=by
 rw [bN (z:=Lt.zero) h];simp
theorem uj {l:ai} {k:Nat} (h:k<l.seqs.length):(l.seqs.take k).flatMap Sq.ins++(l.seqs[k]?.getD Sq.zero).ins=(l.seqs.take (k+1)).flatMap Sq.ins:=by
 rw [bN (z:=Sq.zero) h];simp
theorem oZ {u wr:World} {C g:Nat} {xs:List Int} {X:Nat} (hs:aJ u wr [.cel (aG (aH C xs)) (.slice (some ⟨g,0,none⟩) C C)]) (j:X<C) :
  wr.cell? ⟨g,X,none⟩=some (.int .i64 ((cnt xs (X:Int):Nat):Int))/\wr.frozen? ⟨g,X,none⟩=false/\g<wr.heap.size/\aJ u (wr.setCell ⟨g,X,none⟩ (.int .i64 (((cnt xs (X:Int):Nat):Int)+1))) [.cel (aG (aH C (xs++[(X:Int)]))) (.slice (some ⟨g,0,none⟩) C C)]:=by
 obtain ⟨B,hg,_,h2,h3,h4,h5⟩:=hs.setI 0 rfl j
 injection hg with hg
 injection hg with hg
 subst hg
 rw [jb xs j] at h3
 refine ⟨h3,h4,h2,?_⟩
 have q:=h5 (((cnt xs (X:Int):Nat):Int)+1)
 have z:=tu (m:=C) xs (x:=(X:Int)) (by omega)
 rw [Int.toNat_natCast] at z
 rw [z] at q
 exact q
end Go.Proofs.YtofihjoanjkdmaaGreat
