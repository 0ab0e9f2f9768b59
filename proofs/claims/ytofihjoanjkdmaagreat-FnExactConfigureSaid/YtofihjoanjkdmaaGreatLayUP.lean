/- The program's test whether a network of look-up tables is valid: of networks that are. -/
import Derived.Test.YtofihjoanjkdmaaGreatLayP2
import Derived.Test.YtofihjoanjkdmaaGreatNetRd
import Derived.Test.YtofihjoanjkdmaaGreatQb
namespace Go.Proofs.YtofihjoanjkdmaaGreat
set_option maxHeartbeats 4000000
set_option maxRecDepth 100000
open Go.RowKit
theorem vg (l:ag) (SA LA OA:Option Addr) (sn sc ln lc on oc:Nat) (w:World) (hi:0<=l.inputs/\l.inputs<=20) (h1:sn<=12) (h2:ln<=400) (h3:on<=16) :
  Calls Tryz.prog 174 #[jE l SA LA OA sn sc ln lc on oc] w fun e w'=>e = .returned (.int .i64 (1+l.inputs+(sn:Int)+(ln:Int)))/\Below w.heap.size w w':=by
 have j:=Hd (aB (Below.refl w.heap.size w) (.cells (ai l SA LA OA sn sc ln lc on oc) 41))
 have u:Hid (inR l.inputs 0 20=true):=aR.2 hi
 have H:decide ((12:Int)<(sn:Int))=false:=decide_eq_false (by omega)
 have B:decide ((400:Int)<(ln:Int))=false:=decide_eq_false (by omega)
 have G:decide ((16:Int)<(on:Int))=false:=decide_eq_false (by omega)
 go_enter Tryz.func174,Tryz.ntmps174
 go_wp2_with fail
 refine (aM l.inputs 0 20 _).mono ?_
 rw [u.out]
 rintro _ D ⟨rfl,rfl⟩
 go_wp2_with fail
 refine (tJ l.inputs SA LA OA sn sc ln lc on oc _ hi.1 (by omega) (by omega) (by omega)).mono ?_
 rintro _ z ⟨rfl,q⟩
 have g:=Hd (aA j.out q)
 clear q
 go_wp2_with fail
 go_ret
 exact ⟨rfl,g.out⟩
theorem CO (m:Int) (w:World) (q:0<=m/\m<=1) :
  Calls Tryz.prog 178 #[.agg #[.int .i64 0,.int .i64 m]] w fun e w'=>e = .returned (.bool true)/\Below w.heap.size w w':=by
 have j:=Hd (aB (Below.refl w.heap.size w) (.cells #[.int .i64 0,.int .i64 m] 188))
 have z:Hid (inR 0 0 4=true):=by show _=_;decide
 have g:Hid (inR m 0 1=true):=aR.2 q
 clear q
 go_enter Tryz.func178,Tryz.ntmps178
 go_wp2_with fail
 refine (aM _ 0 4 _).mono ?_
 rw [z.out]
 rintro _ u ⟨rfl,rfl⟩
 go_wp2_with fail
 refine (aM m 0 1 _).mono ?_
 rw [g.out]
 rintro _ u ⟨rfl,rfl⟩
 go_wp2_with fail
 go_ret
 exact ⟨rfl,j.out⟩
theorem CP (m:Int) (w:World) (q:0<=m/\m<=3) :
  Calls Tryz.prog 178 #[.agg #[.int .i64 1,.int .i64 m]] w fun e w'=>e = .returned (.bool true)/\Below w.heap.size w w':=by
 have j:=Hd (aB (Below.refl w.heap.size w) (.cells #[.int .i64 1,.int .i64 m] 188))
 have z:Hid (inR 1 0 4=true):=by show _=_;decide
 have g:Hid (inR m 0 3=true):=aR.2 q
 clear q
 go_enter Tryz.func178,Tryz.ntmps178
 go_wp2_with fail
 refine (aM _ 0 4 _).mono ?_
 rw [z.out]
 rintro _ u ⟨rfl,rfl⟩
 go_wp2_with fail
 refine (aM m 0 3 _).mono ?_
 rw [g.out]
 rintro _ u ⟨rfl,rfl⟩
 go_wp2_with fail
 go_ret
 exact ⟨rfl,j.out⟩
theorem CQ (m:Int) (w:World) (q:0<=m/\m<=15) :
  Calls Tryz.prog 178 #[.agg #[.int .i64 2,.int .i64 m]] w fun e w'=>e = .returned (.bool true)/\Below w.heap.size w w':=by
 have j:=Hd (aB (Below.refl w.heap.size w) (.cells #[.int .i64 2,.int .i64 m] 188))
 have z:Hid (inR 2 0 4=true):=by show _=_;decide
 have g:Hid (inR m 0 15=true):=aR.2 q
 clear q
 go_enter Tryz.func178,Tryz.ntmps178
 go_wp2_with fail
 refine (aM _ 0 4 _).mono ?_
 rw [z.out]
 rintro _ u ⟨rfl,rfl⟩
 go_wp2_with fail
 refine (aM m 0 15 _).mono ?_
 rw [g.out]
 rintro _ u ⟨rfl,rfl⟩
 go_wp2_with fail
 go_ret
 exact ⟨rfl,j.out⟩
theorem CR (m:Int) (w:World) (q:0<=m/\m<=255) :
  Calls Tryz.prog 178 #[.agg #[.int .i64 3,.int .i64 m]] w fun e w'=>e = .returned (.bool true)/\Below w.heap.size w w':=by
 have j:=Hd (aB (Below.refl w.heap.size w) (.cells #[.int .i64 3,.int .i64 m] 188))
 have z:Hid (inR 3 0 4=true):=by show _=_;decide
 have g:Hid (inR m 0 255=true):=aR.2 q
 clear q
 go_enter Tryz.func178,Tryz.ntmps178
 go_wp2_with fail
 refine (aM _ 0 4 _).mono ?_
 rw [z.out]
 rintro _ u ⟨rfl,rfl⟩
 go_wp2_with fail
 refine (aM m 0 255 _).mono ?_
 rw [g.out]
 rintro _ u ⟨rfl,rfl⟩
 go_wp2_with fail
 go_ret
 exact ⟨rfl,j.out⟩
theorem CS (m:Int) (w:World) (q:0<=m/\m<=65535) :
  Calls Tryz.prog 178 #[.agg #[.int .i64 4,.int .i64 m]] w fun e w'=>e = .returned (.bool true)/\Below w.heap.size w w':=by
 have j:=Hd (aB (Below.refl w.heap.size w) (.cells #[.int .i64 4,.int .i64 m] 188))
 have z:Hid (inR 4 0 4=true):=by show _=_;decide
 have g:Hid (inR m 0 65535=true):=aR.2 q
 clear q
 go_enter Tryz.func178,Tryz.ntmps178
 go_wp2_with fail
 refine (aM _ 0 4 _).mono ?_
 rw [z.out]
 rintro _ u ⟨rfl,rfl⟩
 go_wp2_with fail
 refine (aM m 0 65535 _).mono ?_
 rw [g.out]
 rintro _ u ⟨rfl,rfl⟩
 go_wp2_with fail
 go_ret
 exact ⟨rfl,j.out⟩
theorem yX (n:Nat) (m:Int) (w:World) (hn:n<=4) (g:0<=m/\m<2 ^ 2 ^ n) :
  Calls Tryz.prog 178 #[.agg #[.int .i64 (n:Int),.int .i64 m]] w fun e w'=>e = .returned (.bool true)/\Below w.heap.size w w':=by
 have hc:n=0∨n=1∨n=2∨n=3∨n=4:=by omega
 rcases hc with rfl|rfl|rfl|rfl|rfl
 ·exact CO m w ⟨g.1,by have h:=g.2;simp at h;omega⟩
 ·exact CP m w ⟨g.1,by have h:=g.2;simp at h;omega⟩
 ·exact CQ m w ⟨g.1,by have h:=g.2;simp at h;omega⟩
 ·exact CR m w ⟨g.1,by have h:=g.2;simp at h;omega⟩
 exact CS m w ⟨g.1,by have h:=g.2;simp at h;omega⟩
theorem kZ (g:Int) (SA LA OA:Option Addr) (sn sc ln lc on oc:Nat) (w:World) (h0:0<=g) (h1:g<=1099511627776) (h2:sn<=1099511627776) :
  Calls Tryz.prog 177 #[.agg #[.int .i64 g,.slice SA sn sc,.slice LA ln lc,.slice OA on oc]] w fun e w'=>e = .returned (.int .i64 (1+g+(sn:Int)))/\Below w.heap.size w w':=by
 go_enter Tryz.func177,Tryz.ntmps177
 go_wp2
 go_ret
 exact ⟨rfl,aB (Below.refl _ _) _⟩
noncomputable def tb (P:Prop):Bool:=@decide P (Classical.propDecidable P)
theorem ae {P:Prop} (h:P):tb P=true:=by unfold tb;exact @decide_eq_true P (Classical.propDecidable P) h
theorem bJ {P:Prop} (h:¬P):tb P=false:=by unfold tb;exact @decide_eq_false P (Classical.propDecidable P) h
theorem dU {P:Prop} (h:P):Ending.returned (.bool true) = .returned (.bool (tb P)):=by rw [ae h]
theorem aO {P:Prop} (h:¬P):Ending.returned (.bool false) = .returned (.bool (tb P)):=by rw [bJ h]
def jy (xs:List Int) (m:Int):Prop:=∀x∈xs,0<=x/\x<m
def j5 (k y:Int) (n:Nat):Prop:=k=0/\(0<=y/\y<=1)/\n=1∨k=1/\(0<=y/\y<=31)/\n=4
def iV (n:Nat) (m:Int):Prop:=n<=4/\0<=m/\m<2 ^ 2 ^ n
theorem nJ (A:Option Addr) (n c:Nat) (xs:List Int) (m:Int) (w:World) (h:dP w A n xs) (hn:n<=1048576) (Y:0<=m/\m<=1048576) :
  Calls Tryz.prog 175 #[.slice A n c,.int .i64 m] w fun e w'=>e = .returned (.bool (tb (jy xs m)))/\w=w':=by
 have K:=Hd h
 clear h
 go_enter Tryz.func175,Tryz.ntmps175
 go_wp2_with fail
 go_loopw [9] (fun i wr=>∃k:Nat,k<=n/\i = .int .i64 (k:Int)/\w=wr/\∀j,j<k→0<=xs[j]?.getD 0/\xs[j]?.getD 0<m) (fun i _=>n - (intOf i).toNat)
 ·exact ⟨0,by omega,rfl,rfl,fun j hj=>by omega⟩
 obtain ⟨k,hk,rfl,rfl,u⟩:=hrel
 have q:=Hd u
 clear u
 by_cases B:k<n
 ·have Q:=dT (by omega:k<n)
  obtain ⟨b,o,rfl,Z,hc⟩:=K.out.2 (by omega)
  have J:=hc k B
  have z:k<xs.length:=by rw [K.out.1];exact B
  have I:=Hd (List.getElem_mem z)
  have D:Hid (0<=xs[k]?.getD 0/\xs[k]?.getD 0<m→∀j,j<k+1→0<=xs[j]?.getD 0/\xs[j]?.getD 0<m):=fun h=>bW q.out h
  rw [List.getElem?_eq_getElem z,Option.getD_some] at J D
  generalize xs[k]=x at *
  obtain ⟨W,V⟩:=ib (by omega:k<n)
  clear hc
  by_cases g:0<=x/\x<m
  ·have H:Hid (inR x 0 (m - 1)=true):=aR.2 ⟨g.1,by have:=g.2;omega⟩
   have R:=Hd (D.out g)
   clear g D
   go_wp2_with fail
   refine (aM x 0 (m - 1) _).mono ?_
   rw [H.out]
   rintro _ w' ⟨rfl,rfl⟩
   go_wp2_with fail
   go_roundw
   ·exact ⟨k+1,by omega,by go_num,by first|rfl|trivial,R.out⟩
   simp [intOf];omega
  have H:Hid (inR x 0 (m - 1)=false):=by
   show _=_
   cases h:inR x 0 (m - 1) with
   | false=>rfl
   | true=>exact absurd (by have:=aR.1 h;omega) g
  have U:Hid (¬jy xs m):=fun h=>g (h x I.out)
  clear g D
  go_wp2_with fail
  refine (aM x 0 (m - 1) _).mono ?_
  rw [H.out]
  rintro _ w' ⟨rfl,rfl⟩
  go_wp2_with fail
  go_ret
  exact ⟨aO U.out,rfl⟩
 have G:k=n:=by omega
 subst G
 have Q:decide ((k:Int)<(k:Int))=false:=by simp
 go_wp2_with fail
 go_ret
 refine ⟨dU fun x g=>?_,rfl⟩
 obtain ⟨j,hj,rfl⟩:=List.getElem_of_mem g
 have:=q.out j (by rw [←K.out.1];exact hj)
 rwa [List.getElem?_eq_getElem hj,Option.getD_some] at this
theorem CU (k y:Int) (A:Option Addr) (n c:Nat) (w:World) :
  Calls Tryz.prog 176 #[.agg #[.int .i64 k,.int .i64 y,.slice A n c]] w fun e w'=>e = .returned (.bool (tb (j5 k y n)))/\Below w.heap.size w w':=by
 have j:=Hd (aB (Below.refl w.heap.size w) (.cells #[.int .i64 k,.int .i64 y,.slice A n c] 91))
 by_cases h0:k=0
 ·subst h0
  cases hr:inR y 0 1 with
  | false =>
   have q:Hid (¬j5 0 y n):=by
    rintro (h|h)
    ·rw [aR.2 h.2.1] at hr;cases hr
    omega
   have u:=Hd hr
   clear hr
   go_enter Tryz.func176,Tryz.ntmps176
   go_wp2_with fail
   refine (aM y 0 1 _).mono ?_
   rw [u.out]
   rintro _ z ⟨rfl,rfl⟩
   go_wp2_with fail
   go_ret
   exact ⟨aO q.out,j.out⟩
  | true =>
   have u:=Hd hr
   clear hr
   by_cases g:n=1
   ·have B:((n:Int)==1)=true:=by simp;omega
    have q:Hid (j5 0 y n) := .inl ⟨rfl,aR.1 u.out,g⟩
    clear g
    go_enter Tryz.func176,Tryz.ntmps176
    go_wp2_with fail
    refine (aM y 0 1 _).mono ?_
    rw [u.out]
    rintro _ z ⟨rfl,rfl⟩
    go_wp2_with fail
    go_ret
    exact ⟨dU q.out,j.out⟩
   have B:((n:Int)==1)=false:=by simp;omega
   have q:Hid (¬j5 0 y n):=by
    rintro (h|h)
    ·exact g h.2.2
    omega
   clear g
   go_enter Tryz.func176,Tryz.ntmps176
   go_wp2_with fail
   refine (aM y 0 1 _).mono ?_
   rw [u.out]
   rintro _ z ⟨rfl,rfl⟩
   go_wp2_with fail
   go_ret
   exact ⟨aO q.out,j.out⟩
 by_cases h1:k=1
 ·subst h1
  cases hr:inR y 0 31 with
  | false =>
   have q:Hid (¬j5 1 y n):=by
    rintro (h|h)
    ·omega
    rw [aR.2 h.2.1] at hr;cases hr
   have u:=Hd hr
   clear hr h0
   go_enter Tryz.func176,Tryz.ntmps176
   go_wp2_with fail
   refine (aM y 0 31 _).mono ?_
   rw [u.out]
   rintro _ z ⟨rfl,rfl⟩
   go_wp2_with fail
   go_ret
   exact ⟨aO q.out,j.out⟩
  | true =>
   have u:=Hd hr
   clear hr h0
   by_cases g:n=4
   ·have B:((n:Int)==4)=true:=by simp;omega
    have q:Hid (j5 1 y n) := .inr ⟨rfl,aR.1 u.out,g⟩
    clear g
    go_enter Tryz.func176,Tryz.ntmps176
    go_wp2_with fail
    refine (aM y 0 31 _).mono ?_
    rw [u.out]
    rintro _ z ⟨rfl,rfl⟩
    go_wp2_with fail
    go_ret
    exact ⟨dU q.out,j.out⟩
   have B:((n:Int)==4)=false:=by simp;omega
   have q:Hid (¬j5 1 y n):=by
    rintro (h|h)
    ·omega
    exact g h.2.2
   clear g
   go_enter Tryz.func176,Tryz.ntmps176
   go_wp2_with fail
   refine (aM y 0 31 _).mono ?_
   rw [u.out]
   rintro _ z ⟨rfl,rfl⟩
   go_wp2_with fail
   go_ret
   exact ⟨aO q.out,j.out⟩
 have H:(k==0)=false:=by simp;omega
 have B:(k==1)=false:=by simp;omega
 have D:((0:Int)==k)=false:=by simp;omega
 have G:((1:Int)==k)=false:=by simp;omega
 have q:Hid (¬j5 k y n):=by
  rintro (h|h)
  ·exact h0 h.1
  exact h1 h.1
 clear h0 h1
 go_enter Tryz.func176,Tryz.ntmps176
 go_wp2_with fail
 go_ret
 exact ⟨aO q.out,j.out⟩
theorem yY (m:Int) (w:World) (q:¬(0<=m/\m<=1)) :
  Calls Tryz.prog 178 #[.agg #[.int .i64 0,.int .i64 m]] w fun e w'=>e = .returned (.bool false)/\Below w.heap.size w w':=by
 have j:=Hd (aB (Below.refl w.heap.size w) (.cells #[.int .i64 0,.int .i64 m] 188))
 have z:Hid (inR 0 0 4=true):=by show _=_;decide
 have g:Hid (inR m 0 1=false):=by
  show _=_
  cases h:inR m 0 1 with
  | false=>rfl
  | true=>exact absurd (aR.1 h) q
 clear q
 go_enter Tryz.func178,Tryz.ntmps178
 go_wp2_with fail
 refine (aM _ 0 4 _).mono ?_
 rw [z.out]
 rintro _ u ⟨rfl,rfl⟩
 go_wp2_with fail
 refine (aM m 0 1 _).mono ?_
 rw [g.out]
 rintro _ u ⟨rfl,rfl⟩
 go_wp2_with fail
 go_ret
 exact ⟨rfl,j.out⟩
theorem yZ (m:Int) (w:World) (q:¬(0<=m/\m<=3)) :
  Calls Tryz.prog 178 #[.agg #[.int .i64 1,.int .i64 m]] w fun e w'=>e = .returned (.bool false)/\Below w.heap.size w w':=by
 have j:=Hd (aB (Below.refl w.heap.size w) (.cells #[.int .i64 1,.int .i64 m] 188))
 have z:Hid (inR 1 0 4=true):=by show _=_;decide
 have g:Hid (inR m 0 3=false):=by
  show _=_
  cases h:inR m 0 3 with
  | false=>rfl
  | true=>exact absurd (aR.1 h) q
 clear q
 go_enter Tryz.func178,Tryz.ntmps178
 go_wp2_with fail
 refine (aM _ 0 4 _).mono ?_
 rw [z.out]
 rintro _ u ⟨rfl,rfl⟩
 go_wp2_with fail
 refine (aM m 0 3 _).mono ?_
 rw [g.out]
 rintro _ u ⟨rfl,rfl⟩
 go_wp2_with fail
 go_ret
 exact ⟨rfl,j.out⟩
theorem yf (m:Int) (w:World) (q:¬(0<=m/\m<=15)) :
  Calls Tryz.prog 178 #[.agg #[.int .i64 2,.int .i64 m]] w fun e w'=>e = .returned (.bool false)/\Below w.heap.size w w':=by
 have j:=Hd (aB (Below.refl w.heap.size w) (.cells #[.int .i64 2,.int .i64 m] 188))
 have z:Hid (inR 2 0 4=true):=by show _=_;decide
 have g:Hid (inR m 0 15=false):=by
  show _=_
  cases h:inR m 0 15 with
  | false=>rfl
  | true=>exact absurd (aR.1 h) q
 clear q
 go_enter Tryz.func178,Tryz.ntmps178
 go_wp2_with fail
 refine (aM _ 0 4 _).mono ?_
 rw [z.out]
 rintro _ u ⟨rfl,rfl⟩
 go_wp2_with fail
 refine (aM m 0 15 _).mono ?_
 rw [g.out]
 rintro _ u ⟨rfl,rfl⟩
 go_wp2_with fail
 go_ret
 exact ⟨rfl,j.out⟩
theorem yg (m:Int) (w:World) (q:¬(0<=m/\m<=255)) :
  Calls Tryz.prog 178 #[.agg #[.int .i64 3,.int .i64 m]] w fun e w'=>e = .returned (.bool false)/\Below w.heap.size w w':=by
 have j:=Hd (aB (Below.refl w.heap.size w) (.cells #[.int .i64 3,.int .i64 m] 188))
 have z:Hid (inR 3 0 4=true):=by show _=_;decide
 have g:Hid (inR m 0 255=false):=by
  show _=_
  cases h:inR m 0 255 with
  | false=>rfl
  | true=>exact absurd (aR.1 h) q
 clear q
 go_enter Tryz.func178,Tryz.ntmps178
 go_wp2_with fail
 refine (aM _ 0 4 _).mono ?_
 rw [z.out]
 rintro _ u ⟨rfl,rfl⟩
 go_wp2_with fail
 refine (aM m 0 255 _).mono ?_
 rw [g.out]
 rintro _ u ⟨rfl,rfl⟩
 go_wp2_with fail
 go_ret
 exact ⟨rfl,j.out⟩
theorem yh (m:Int) (w:World) (q:¬(0<=m/\m<=65535)) :
  Calls Tryz.prog 178 #[.agg #[.int .i64 4,.int .i64 m]] w fun e w'=>e = .returned (.bool false)/\Below w.heap.size w w':=by
 have j:=Hd (aB (Below.refl w.heap.size w) (.cells #[.int .i64 4,.int .i64 m] 188))
 have z:Hid (inR 4 0 4=true):=by show _=_;decide
 have g:Hid (inR m 0 65535=false):=by
  show _=_
  cases h:inR m 0 65535 with
  | false=>rfl
  | true=>exact absurd (aR.1 h) q
 clear q
 go_enter Tryz.func178,Tryz.ntmps178
 go_wp2_with fail
 refine (aM _ 0 4 _).mono ?_
 rw [z.out]
 rintro _ u ⟨rfl,rfl⟩
 go_wp2_with fail
 refine (aM m 0 65535 _).mono ?_
 rw [g.out]
 rintro _ u ⟨rfl,rfl⟩
 go_wp2_with fail
 go_ret
 exact ⟨rfl,j.out⟩
theorem yj (n:Nat) (m:Int) (w:World) (hn:n<=4) :
  Calls Tryz.prog 178 #[.agg #[.int .i64 (n:Int),.int .i64 m]] w fun e w'=>e = .returned (.bool (tb (iV n m)))/\Below w.heap.size w w':=by
 by_cases g:iV n m
 ·rw [ae g]
  exact yX n m w g.1 g.2
 rw [bJ g]
 have hc:n=0∨n=1∨n=2∨n=3∨n=4:=by omega
 rcases hc with rfl|rfl|rfl|rfl|rfl
 ·exact yY m w fun h=>g ⟨by omega,h.1,by have h2:=h.2;simp;omega⟩
 ·exact yZ m w fun h=>g ⟨by omega,h.1,by have h2:=h.2;simp;omega⟩
 ·exact yf m w fun h=>g ⟨by omega,h.1,by have h2:=h.2;simp;omega⟩
 ·exact yg m w fun h=>g ⟨by omega,h.1,by have h2:=h.2;simp;omega⟩
 exact yh m w fun h=>g ⟨by omega,h.1,by have h2:=h.2;simp;omega⟩
theorem xP (l:ag) (SA LA OA:Option Addr) (sn sc ln lc on oc:Nat) (w:World) (h:¬((0<=l.inputs/\l.inputs<=20)/\sn<=12/\ln<=400/\on<=16)) :
  Calls Tryz.prog 174 #[jE l SA LA OA sn sc ln lc on oc] w fun e w'=>e = .returned (.int .i64 0)/\Below w.heap.size w w':=by
 have g:=Hd (aB (Below.refl w.heap.size w) (.cells (ai l SA LA OA sn sc ln lc on oc) 41))
 cases hr:inR l.inputs 0 20 with
 | false =>
  have j:=Hd hr
  clear hr h
  go_enter Tryz.func174,Tryz.ntmps174
  go_wp2_with fail
  refine (aM l.inputs 0 20 _).mono ?_
  rw [j.out]
  rintro _ q ⟨rfl,rfl⟩
  go_wp2_with fail
  go_ret
  exact ⟨rfl,g.out⟩
 | true =>
  have j:=Hd hr
  have hi:=aR.1 hr
  clear hr
  by_cases h1:sn<=12
  ·have z:decide ((12:Int)<(sn:Int))=false:=decide_eq_false (by omega)
   by_cases h2:ln<=400
   ·have u:decide ((400:Int)<(ln:Int))=false:=decide_eq_false (by omega)
    have h3:¬on<=16:=fun h3=>h ⟨hi,h1,h2,h3⟩
    have B:decide ((16:Int)<(on:Int))=true:=decide_eq_true (by omega)
    clear h h1 h2 h3 hi
    go_enter Tryz.func174,Tryz.ntmps174
    go_wp2_with fail
    refine (aM l.inputs 0 20 _).mono ?_
    rw [j.out]
    rintro _ q ⟨rfl,rfl⟩
    go_wp2_with fail
    go_ret
    exact ⟨rfl,g.out⟩
   have u:decide ((400:Int)<(ln:Int))=true:=decide_eq_true (by omega)
   clear h h1 h2 hi
   go_enter Tryz.func174,Tryz.ntmps174
   go_wp2_with fail
   refine (aM l.inputs 0 20 _).mono ?_
   rw [j.out]
   rintro _ q ⟨rfl,rfl⟩
   go_wp2_with fail
   go_ret
   exact ⟨rfl,g.out⟩
  have z:decide ((12:Int)<(sn:Int))=true:=decide_eq_true (by omega)
  clear h h1 hi
  go_enter Tryz.func174,Tryz.ntmps174
  go_wp2_with fail
  refine (aM l.inputs 0 20 _).mono ?_
  rw [j.out]
  rintro _ q ⟨rfl,rfl⟩
  go_wp2_with fail
  go_ret
  exact ⟨rfl,g.out⟩
theorem pY (l:ag) (SA LA OA:Option Addr) (sn sc ln lc on oc:Nat) (w:World) (h:fU w l SA LA OA sn sc ln lc on oc) :
  Calls Tryz.prog 91 #[jE l SA LA OA sn sc ln lc on oc] w fun e w'=>e = .returned (.bool (tb (az l)))/\Below w.heap.size w w':=by
 have B:=Hd (aB (Below.refl w.heap.size w) (.cells (ai l SA LA OA sn sc ln lc on oc) 41))
 have bm:=Hd (aI w (.cells (ai l SA LA OA sn sc ln lc on oc) 41))
 obtain ⟨aU,aT,a1⟩:=h.lens
 obtain ⟨HN,Q,V,aZ⟩:=hd4 h aU aT a1
 clear h aU aT a1
 by_cases hz:(0<=l.inputs/\l.inputs<=20)/\sn<=12/\ln<=400/\on<=16
 ·obtain ⟨a0,aJ,br,bh⟩:=hz
  have HC:Hid ((l.count:Int)=1+l.inputs+(sn:Int)+(ln:Int)):=by show _=_;have:=Q.out;have:=V.out;unfold ag.count ag.first;omega
  have aV:Hid ((l.first:Int)=1+l.inputs+(sn:Int)):=by show _=_;have:=Q.out;unfold ag.first;omega
  have bB:((1+l.inputs+(sn:Int)+(ln:Int))==0)=false:=by simp;omega
  have aX:Hid (0<=1+l.inputs+(sn:Int)+(ln:Int)/\1+l.inputs+(sn:Int)+(ln:Int)<=1048576):=⟨by omega,by omega⟩
  have W:=Hd a0
  clear a0
  go_enter Tryz.func91,Tryz.ntmps91
  go_wp2_with fail
  refine (vg l SA LA OA sn sc ln lc on oc _ W.out aJ br bh).mono ?_
  rintro _ w1 ⟨rfl,b1⟩
  have B1:=Hd b1
  have a4:=Hd (aD b1 bm.out)
  obtain ⟨-,x1,x2,x3,lx⟩:=cO a4.out
  clear b1
  go_wp2_with fail
  refine (nJ OA on oc l.outs _ _ (HN.out.below (aA B.out B1.out)).ou.ints (by omega) aX.out).mono ?_
  by_cases Z:jy l.outs (1+l.inputs+(sn:Int)+(ln:Int))
  ·rw [ae Z]
   have bo:=Hd Z
   clear Z
   rintro _ w2 ⟨rfl,rfl⟩
   go_wp2_with fail
   go_loopw [22] (fun i wr=>∃k:Nat,k<=sn/\i = .int .i64 (k:Int)/\Below w1.heap.size w1 wr/\∀j,j<k→j5 (l.seqs[j]?.getD Sq.zero).kind (l.seqs[j]?.getD Sq.zero).init (l.seqs[j]?.getD Sq.zero).ins.length/\jy (l.seqs[j]?.getD Sq.zero).ins (1+l.inputs+(sn:Int)+(ln:Int))) (fun i _=>sn - (intOf i).toNat)
   ·exact ⟨0,by omega,rfl,Below.refl _ _,fun j hj=>by omega⟩
   obtain ⟨k,hk,rfl,hb,G⟩:=hrel
   obtain ⟨HB,u⟩:=hd2 hb G
   clear hb G
   by_cases a8:k<sn
   ·have bp:=dT (by omega:k<sn)
    have aw:=Hd (HN.out.below (aA (aA B.out B1.out) HB.out))
    obtain ⟨b,o,S,m,p,rfl,bk,c0,c1,c2,r2⟩:=aw.out.sq.sq' (k:=k) (by rw [Q.out];exact a8)
    have hm:(l.seqs[k]?.getD Sq.zero).ins.length=m:=r2.ints.1
    have aK:=Hd r2
    have HG:Hid (j5 (l.seqs[k]?.getD Sq.zero).kind (l.seqs[k]?.getD Sq.zero).init m/\jy (l.seqs[k]?.getD Sq.zero).ins (1+l.inputs+(sn:Int)+(ln:Int))→∀j,j<k+1→j5 (l.seqs[j]?.getD Sq.zero).kind (l.seqs[j]?.getD Sq.zero).init (l.seqs[j]?.getD Sq.zero).ins.length/\jy (l.seqs[j]?.getD Sq.zero).ins (1+l.inputs+(sn:Int)+(ln:Int))):=fun h=>bW u.out (by rw [hm];exact h)
    have q:Hid (¬(j5 (l.seqs[k]?.getD Sq.zero).kind (l.seqs[k]?.getD Sq.zero).init m/\jy (l.seqs[k]?.getD Sq.zero).ins (1+l.inputs+(sn:Int)+(ln:Int)))→¬az l):=fun h hf=>h (by
     have h1:=hf.seqs k (by rw [Q.out];exact a8)
     rw [hm] at h1
     exact ⟨h1.1,by rw [←HC.out];exact h1.2⟩)
    generalize l.seqs[k]?.getD Sq.zero=s at *
    obtain ⟨i0,i1⟩:=ib (by omega:k<sn)
    clear r2 hm x1 x2 x3 lx
    go_wp2_with fail
    refine (CU s.kind s.init S m p _).mono ?_
    by_cases R:j5 s.kind s.init m
    ·rw [ae R]
     have aq:m<=4:=by rcases R with h|h <;> omega
     have bs:=Hd R
     clear R
     rintro _ w3 ⟨rfl,b3⟩
     obtain ⟨-,-,y2,ly⟩:=jX (aD b3 (aI wr (.cells #[.int .i64 s.kind,.int .i64 s.init,.slice S m p] 91)))
     have ak:=Hd (aA (aB (Below.refl wr.heap.size wr) (.cells #[.int .i64 s.kind,.int .i64 s.init,.slice S m p] 91)) b3)
     clear b3 c0 c1 c2
     go_wp2_with fail
     refine (nJ S m p s.ins _ _ (aK.out.below ak.out).ints (by omega) aX.out).mono ?_
     by_cases g:jy s.ins (1+l.inputs+(sn:Int)+(ln:Int))
     ·rw [ae g]
      have aM:=Hd (HG.out ⟨bs.out,g⟩)
      clear g HG q
      rintro _ w4 ⟨rfl,rfl⟩
      clear y2 ly
      go_wp2_with fail
      go_roundw
      ·exact ⟨k+1,by omega,by go_num,aA HB.out ak.out,aM.out⟩
      simp [intOf];omega
     rw [bJ g]
     have HF:=Hd (q.out fun h=>g h.2)
     clear g HG q
     rintro _ w4 ⟨rfl,rfl⟩
     clear y2 ly
     go_wp2_with fail
     go_ret
     exact ⟨aO HF.out,aA (aA (aA B.out B1.out) HB.out) ak.out⟩
    rw [bJ R]
    have HF:=Hd (q.out fun h=>R h.1)
    clear R HG q
    rintro _ w3 ⟨rfl,b3⟩
    have ak:=Hd (aA (aB (Below.refl wr.heap.size wr) (.cells #[.int .i64 s.kind,.int .i64 s.init,.slice S m p] 91)) b3)
    clear b3 c0 c1 c2
    go_wp2_with fail
    go_ret
    exact ⟨aO HF.out,aA (aA (aA B.out B1.out) HB.out) ak.out⟩
   have bp:=dF (by omega:sn<=k)
   have av:k=sn:=by omega
   have bq:Hid (∀j,j<sn→j5 (l.seqs[j]?.getD Sq.zero).kind (l.seqs[j]?.getD Sq.zero).init (l.seqs[j]?.getD Sq.zero).ins.length/\jy (l.seqs[j]?.getD Sq.zero).ins (1+l.inputs+(sn:Int)+(ln:Int))):=fun j hj=>u.out j (by omega)
   have a6:=Hd (aD HB.out a4.out)
   clear x1 x2 x3 lx u av
   obtain ⟨-,-,x2,lx⟩:=jX a6.out
   obtain ⟨wo,rfl⟩:∃y,y=wr:=⟨wr,rfl⟩
   go_wp2_with fail
   go_loopw [40] (fun i wr=>∃k:Nat,k<=ln/\i = .int .i64 (k:Int)/\Below wo.heap.size wo wr/\∀j,j<k→iV (l.luts[j]?.getD Lt.zero).ins.length (l.luts[j]?.getD Lt.zero).mask/\jy (l.luts[j]?.getD Lt.zero).ins (1+l.inputs+(sn:Int)+(j:Int))) (fun i _=>ln - (intOf i).toNat)
   ·exact ⟨0,by omega,rfl,Below.refl _ _,fun j hj=>by omega⟩
   obtain ⟨k,hk,rfl,hb,G⟩:=hrel
   obtain ⟨H,u⟩:=hd2 hb G
   clear hb G x2 lx
   by_cases au:k<ln
   ·have a5:=dT (by omega:k<ln)
    have aw:=Hd (HN.out.below (aA (aA (aA B.out B1.out) HB.out) H.out))
    have a2:=Hd (aD H.out a6.out)
    obtain ⟨b,o,S,m,p,rfl,bk,c0,c1,r2⟩:=aw.out.lt.lut' (k:=k) (by rw [V.out];exact au)
    have hm:(l.luts[k]?.getD Lt.zero).ins.length=m:=r2.ints.1
    have aK:=Hd r2
    have HG:Hid (iV m (l.luts[k]?.getD Lt.zero).mask/\jy (l.luts[k]?.getD Lt.zero).ins (1+l.inputs+(sn:Int)+(k:Int))→∀j,j<k+1→iV (l.luts[j]?.getD Lt.zero).ins.length (l.luts[j]?.getD Lt.zero).mask/\jy (l.luts[j]?.getD Lt.zero).ins (1+l.inputs+(sn:Int)+(j:Int))):=fun h=>bW u.out (by rw [hm];exact h)
    have q:Hid (¬(iV m (l.luts[k]?.getD Lt.zero).mask/\jy (l.luts[k]?.getD Lt.zero).ins (1+l.inputs+(sn:Int)+(k:Int)))→¬az l):=fun h hf=>h (by
     have h1:=hf.luts k (by rw [V.out];exact au)
     rw [hm] at h1
     exact ⟨⟨h1.1,h1.2.1⟩,by rw [←aV.out];exact h1.2.2⟩)
    generalize l.luts[k]?.getD Lt.zero=s at *
    obtain ⟨i0,i1⟩:=ib (by omega:k<ln)
    clear r2 hm
    have Y:=Hd (aB (Below.refl wr.heap.size wr) (.cells #[.slice S m p,.int .i64 s.mask] 96))
    obtain ⟨y0,y1,ly⟩:=jv (aI wr (.cells #[.slice S m p,.int .i64 s.mask] 96))
    have aW:=aD Y.out a2.out
    obtain ⟨x0,x1,x2,x3,lx⟩:=cO aW
    have bF:wr.heap.size≠w.heap.size:=by have:=aC a2.out;omega
    go_upto_region 13 with fail
    generalize wr.alloc (.cells #[.slice S m p,.int .i64 s.mask] 96)=J at *
    have ap:=Hd (fun (x:Sub J)=>kZ l.inputs SA (some ⟨b,o,none⟩) OA sn sc ln lc on oc x.v W.out.1 (by have:=W.out;omega) (by omega))
    have bv:=W.out.1
    have bw:=W.out.2
    clear c0 c1 aW
    by_cases aq:m<=4
    ·have hd4:decide ((4:Int)<(m:Int))=false:=decide_eq_false (by omega)
     have D:=fun (x:Sub J)=>nJ S m p s.ins (1+l.inputs+(sn:Int)+(k:Int)) x.v (aK.out.below (aA Y.out x.h)).ints (by omega) (by omega)
     have K:=fun (x:Sub J)=>yj m s.mask x.v aq
     by_cases g:jy s.ins (1+l.inputs+(sn:Int)+(k:Int))
     ·rw [ae g] at D
      by_cases U:iV m s.mask
      ·rw [ae U] at K
       obtain ⟨aj,aE⟩:=hd2 D K
       have aM:=Hd (HG.out ⟨U,g⟩)
       clear D K g U HG q
       have z:=aY J
       have I:=aP J
       refine wpB J ?_
       repeat (go_big_quiet_step ((first
        | (go_at_call 177;with_reducible exact aN (ap.out _))
        | (go_at_call 175;with_reducible exact aQ (aj.out _))
        | (go_at_call 178;with_reducible exact aN (aE.out _)))))
       refine wpQuiet_nil ?_
       rintro _ ⟨⟨w5,hD⟩,rfl⟩
       clear z I
       have HD:=Hd (aA Y.out hD)
       clear hD x0 x1 x2 x3 lx y0 y1 ly
       go_wp2_with fail
       go_roundw
       ·exact ⟨k+1,by omega,by go_num,aA H.out HD.out,aM.out⟩
       simp [intOf];omega
      rw [bJ U] at K
      obtain ⟨aj,aE⟩:=hd2 D K
      have HF:=Hd (q.out fun h=>U h.1)
      clear D K g U HG q
      have z:=aY J
      have I:=aP J
      refine wpB J ?_
      repeat (go_big_quiet_step ((first
       | (go_at_call 177;with_reducible exact aN (ap.out _))
       | (go_at_call 175;with_reducible exact aQ (aj.out _))
       | (go_at_call 178;with_reducible exact aN (aE.out _)))))
      refine wpQuiet_nil ?_
      rintro _ ⟨⟨w5,hD⟩,rfl⟩
      clear z I
      have HD:=Hd (aA Y.out hD)
      clear hD x0 x1 x2 x3 lx y0 y1 ly
      go_wp2_with fail
      go_ret
      exact ⟨aO HF.out,aA (aA (aA (aA B.out B1.out) HB.out) H.out) HD.out⟩
     rw [bJ g] at D
     have aj:=Hd D
     have HF:=Hd (q.out fun h=>g h.2)
     clear D K g HG q
     have z:=aY J
     have I:=aP J
     refine wpB J ?_
     repeat (go_big_quiet_step ((first
      | (go_at_call 177;with_reducible exact aN (ap.out _))
      | (go_at_call 175;with_reducible exact aQ (aj.out _)))))
     refine wpQuiet_nil ?_
     rintro _ ⟨⟨w5,hD⟩,rfl⟩
     clear z I
     have HD:=Hd (aA Y.out hD)
     clear hD x0 x1 x2 x3 lx y0 y1 ly
     go_wp2_with fail
     go_ret
     exact ⟨aO HF.out,aA (aA (aA (aA B.out B1.out) HB.out) H.out) HD.out⟩
    have hd4:decide ((4:Int)<(m:Int))=true:=decide_eq_true (by omega)
    have HF:=Hd (q.out fun h=>aq h.1.1)
    clear HG q aq
    have z:=aY J
    have I:=aP J
    refine wpB J ?_
    repeat (go_big_quiet_step ((first
     | (go_at_call 177;with_reducible exact aN (ap.out _)))))
    refine wpQuiet_nil ?_
    rintro _ ⟨⟨w5,hD⟩,rfl⟩
    clear z I
    have HD:=Hd (aA Y.out hD)
    clear hD x0 x1 x2 x3 lx y0 y1 ly
    go_wp2_with fail
    go_ret
    exact ⟨aO HF.out,aA (aA (aA (aA B.out B1.out) HB.out) H.out) HD.out⟩
   have a5:=dF (by omega:ln<=k)
   have av:k=ln:=by omega
   have bl:Hid (∀j,j<ln→iV (l.luts[j]?.getD Lt.zero).ins.length (l.luts[j]?.getD Lt.zero).mask/\jy (l.luts[j]?.getD Lt.zero).ins (1+l.inputs+(sn:Int)+(j:Int))):=fun j hj=>u.out j (by omega)
   have bt:=Hd (aA (aA (aA B.out B1.out) HB.out) H.out)
   have a3:Hid (az l):=⟨W.out,by have:=Q.out;omega,by have:=V.out;omega,by have:=aZ.out;omega,by have:=bo.out;rw [←HC.out] at this;exact this,fun i hi=>by have:=bq.out i (by rw [←Q.out];exact hi);rw [←HC.out] at this;exact this,fun i hi=>by have:=bl.out i (by rw [←V.out];exact hi);rw [←aV.out] at this;exact ⟨this.1.1,this.1.2,this.2⟩⟩
   clear u av
   go_wp2_with fail
   go_ret
   exact ⟨dU a3.out,bt.out⟩
  rw [bJ Z]
  have HF:Hid (¬az l):=fun hf=>Z (by rw [←HC.out];exact hf.outs)
  clear Z
  rintro _ w2 ⟨rfl,rfl⟩
  go_wp2_with fail
  go_ret
  exact ⟨aO HF.out,aA B.out B1.out⟩
 have HF:Hid (¬az l):=fun hf=>hz ⟨hf.inp,by have:=hf.nseq;have:=Q.out;omega,by have:=hf.nlut;have:=V.out;omega,by have:=hf.nout;have:=aZ.out;omega⟩
 go_enter Tryz.func91,Tryz.ntmps91
 go_wp2_with fail
 refine (xP l SA LA OA sn sc ln lc on oc _ hz).mono ?_
 rintro _ w1 ⟨rfl,b1⟩
 have B1:=Hd b1
 clear b1 hz
 go_wp2_with fail
 go_ret
 exact ⟨aO HF.out,aA B.out B1.out⟩
theorem nK (A:Option Addr) (n c:Nat) (xs:List Int) (x:Int) (w:World) (h:dP w A n xs) (hn:n<=1048576) :
  Calls Tryz.prog 129 #[.slice A n c,.int .i64 x] w fun e w'=>e = .returned (.bool (decide (x∈xs)))/\w=w':=by
 have I:=Hd h
 clear h
 go_enter Tryz.func129,Tryz.ntmps129
 go_wp2_with fail
 go_loopw [9] (fun i wr=>∃k:Nat,k<=n/\i = .int .i64 (k:Int)/\w=wr/\∀j,j<k→xs[j]?.getD 0≠x) (fun i _=>n - (intOf i).toNat)
 ·exact ⟨0,by omega,rfl,rfl,fun j hj=>by omega⟩
 obtain ⟨k,hk,rfl,rfl,q⟩:=hrel
 have g:=Hd q
 clear q
 by_cases B:k<n
 ·have J:=dT (by omega:k<n)
  obtain ⟨b,o,rfl,Y,hc⟩:=I.out.2 (by omega)
  have H:=hc k B
  have z:k<xs.length:=by rw [I.out.1];exact B
  have R:=Hd (List.getElem_mem z)
  have G:Hid (xs[k]?.getD 0≠x→∀j,j<k+1→xs[j]?.getD 0≠x):=fun h=>bW g.out h
  rw [List.getElem?_eq_getElem z,Option.getD_some] at H G
  generalize xs[k]=y at *
  obtain ⟨V,U⟩:=ib (by omega:k<n)
  clear hc
  by_cases u:y=x
  ·subst u
   go_wp2_with fail
   go_ret
   exact ⟨dC (decide_eq_true R.out).symm,rfl⟩
  have K:=Hd (G.out u)
  have W:(y==x)=false:=by simp;omega
  clear u G
  go_wp2_with fail
  go_roundw
  ·exact ⟨k+1,by omega,by go_num,by first|rfl|trivial,K.out⟩
  simp [intOf];omega
 have D:k=n:=by omega
 subst D
 have J:decide ((k:Int)<(k:Int))=false:=by simp
 go_wp2_with fail
 go_ret
 refine ⟨dC (decide_eq_false fun Q=>?_).symm,rfl⟩
 obtain ⟨j,hj,rfl⟩:=List.getElem_of_mem Q
 exact g.out j (by rw [←I.out.1];exact hj) (by rw [List.getElem?_eq_getElem hj];rfl)
theorem nM (A:Option Addr) (n c:Nat) (xs:List Int) (x:Int) (w:World) (h:dP w A n xs) (hn:n<=1048576) :
  Calls Tryz.prog 208 #[.slice A n c,.int .i64 x] w fun e w'=>e = .returned (.bool (decide (x∈xs)))/\w=w':=by
 have I:=Hd h
 clear h
 go_enter Tryz.func208,Tryz.ntmps208
 go_wp2_with fail
 go_loopw [5] (fun i wr=>∃k:Nat,k<=n/\i = .int .i64 (k:Int)/\w=wr/\∀j,j<k→xs[j]?.getD 0≠x) (fun i _=>n - (intOf i).toNat)
 ·exact ⟨0,by omega,rfl,rfl,fun j hj=>by omega⟩
 obtain ⟨k,hk,rfl,rfl,q⟩:=hrel
 have g:=Hd q
 clear q
 by_cases B:k<n
 ·have J:=dT (by omega:k<n)
  obtain ⟨b,o,rfl,Y,hc⟩:=I.out.2 (by omega)
  have H:=hc k B
  have z:k<xs.length:=by rw [I.out.1];exact B
  have R:=Hd (List.getElem_mem z)
  have G:Hid (xs[k]?.getD 0≠x→∀j,j<k+1→xs[j]?.getD 0≠x):=fun h=>bW g.out h
  rw [List.getElem?_eq_getElem z,Option.getD_some] at H G
  generalize xs[k]=y at *
  obtain ⟨V,U⟩:=ib (by omega:k<n)
  clear hc
  by_cases u:y=x
  ·subst u
   go_wp2_with fail
   go_ret
   exact ⟨dC (decide_eq_true R.out).symm,rfl⟩
  have K:=Hd (G.out u)
  have W:(y==x)=false:=by simp;omega
  clear u G
  go_wp2_with fail
  go_roundw
  ·exact ⟨k+1,by omega,by go_num,by first|rfl|trivial,K.out⟩
  simp [intOf];omega
 have D:k=n:=by omega
 subst D
 have J:decide ((k:Int)<(k:Int))=false:=by simp
 go_wp2_with fail
 go_ret
 refine ⟨dC (decide_eq_false fun Q=>?_).symm,rfl⟩
 obtain ⟨j,hj,rfl⟩:=List.getElem_of_mem Q
 exact g.out j (by rw [←I.out.1];exact hj) (by rw [List.getElem?_eq_getElem hj];rfl)
theorem mR (A:Option Addr) (n c:Nat) (xs:List Int) (w:World) (h:dP w A n xs) (hn:n<=1048576) :
  Calls Tryz.prog 124 #[.slice A n c] w fun e w'=>e = .returned (.bool (tb (∀k:Nat,k<n→xs[k]?.getD 0=1)))/\w=w':=by
 have R:=Hd h
 clear h
 go_enter Tryz.func124,Tryz.ntmps124
 go_wp2_with fail
 go_loopw [7] (fun i wr=>∃k:Nat,k<=n/\i = .int .i64 (k:Int)/\w=wr/\∀j,j<k→xs[j]?.getD 0=1) (fun i _=>n - (intOf i).toNat)
 ·exact ⟨0,by omega,rfl,rfl,fun j hj=>by omega⟩
 obtain ⟨k,hk,rfl,rfl,u⟩:=hrel
 have q:=Hd u
 clear u
 by_cases B:k<n
 ·have H:=dT (by omega:k<n)
  obtain ⟨b,o,rfl,Y,hc⟩:=R.out.2 (by omega)
  have Q:=hc k B
  have G:Hid (xs[k]?.getD 0=1→∀j,j<k+1→xs[j]?.getD 0=1):=fun h=>bW q.out h
  have z:Hid (xs[k]?.getD 0≠1→¬∀j:Nat,j<n→xs[j]?.getD 0=1):=fun h J=>h (J k B)
  generalize xs[k]?.getD 0=y at *
  obtain ⟨V,U⟩:=ib (by omega:k<n)
  clear hc
  by_cases g:y=1
  ·have I:=Hd (G.out g)
   subst g
   clear G z
   go_wp2_with fail
   go_roundw
   ·exact ⟨k+1,by omega,by go_num,by first|rfl|trivial,I.out⟩
   simp [intOf];omega
  have K:=Hd (z.out g)
  have W:(y==1)=false:=by simp;omega
  clear g G z
  go_wp2_with fail
  go_ret
  exact ⟨aO K.out,rfl⟩
 have D:k=n:=by omega
 subst D
 have H:decide ((k:Int)<(k:Int))=false:=by simp
 go_wp2_with fail
 go_ret
 exact ⟨dU q.out,rfl⟩
theorem qc {l:ag} (hn:az l) {e:LeT} (h:dG l e):(qL l e).length<=4/\∀x∈qL l e,0<=x/\x<(l.count:Int):=by
 unfold qL
 split
 ·rename_i h0
  have h1:=h.lut.2
  have h2:=hn.luts e.lut.toNat (by omega)
  unfold ag.lut
  refine ⟨h2.1,fun x g=>?_⟩
  have h3:=h2.2.2 x g
  unfold ag.count
  omega
 rename_i h0
 have h1:=h.ff
 have h4:=h.lut.1
 have h5:=h.one
 have h2:=hn.seqs e.ff.toNat (by omega)
 unfold ag.sq
 exact ⟨by rcases h2.1 with h|h <;> omega,h2.2⟩
theorem mZ {l:ag} (hn:az l) {e:LeT} (h:dG l e):(iB l e).length<=4/\∀x∈iB l e,0<x/\x<(l.count:Int):=by
 obtain ⟨h1,h2⟩:=qc hn h
 refine ⟨?_,fun x g=>?_⟩
 ·unfold iB
  have:=jQ ((qL l e).filter fun x=>decide (x≠0))
  have:=List.length_filter_le (fun x=>decide (x≠0)) (qL l e)
  omega
 obtain ⟨h3,h4⟩:=C8.1 g
 have:=h2 x h3
 omega
theorem yl {l:ag} (hn:az l) {b:Blk} (h:dM l b):(jA l b).length<=5:=by
 obtain ⟨hk,j⟩:=h
 unfold jA
 split
 ·simp
 split
 ·simp
 split
 ·rename_i h2
  rcases hk with h|h|h|h
  ·omega
  ·omega
  ·have h3:=hn.seqs b.item.toNat (by omega)
   unfold ag.sq
   rcases h3.1 with h|h <;> omega
  omega
 rcases j with h|h
 ·exact h.2.2.2
 exfalso
 rcases hk with g|g|g|g <;> omega
theorem uY {l:ag} {b:Blk} (h:dM l b):(kD l b).length<=2:=by
 obtain ⟨_,g⟩:=h
 unfold kD FR
 split
 ·simp
 split
 ·simp
 split
 ·simp
 rw [List.length_map]
 rcases g with h|h
 ·exact h.2.2.1.2
 rw [h.2.1];simp
theorem xQ (g:List (List Int)) (i:Nat) (os:List Int) (p:Nat):(iO g i os p).length<=p:=by
 induction p with
 | zero=>simp [iO]
 | succ p ih=>rw [rQ,List.length_append];unfold uq;split <;> simp <;> omega
theorem qo {l:ag} {bs:List Blk} (h:∀b∈bs,dM l b) {i:Nat} (hi:i<=bs.length):(kw l bs i).length<=2 * i:=by
 induction i with
 | zero=>simp [kw]
 | succ i ih =>
  have h1:=ih (by omega)
  have h2:=xQ (bs.map (jA l)) i (kD l (bs[i]?.getD Blk.zero)) (kD l (bs[i]?.getD Blk.zero)).length
  have h3:(kD l (bs[i]?.getD Blk.zero)).length<=2:=by
   rw [List.getElem?_eq_getElem (show i<bs.length by omega),Option.getD_some]
   exact uY (h _ (List.getElem_mem _))
  rw [qQ,List.length_append]
  omega
/-! ### counting -/
theorem mD {m:Nat} {xs:List Int}:(∀k:Nat,k<m→(aG m xs)[k]?.getD 0=1)↔sJ m xs:=by
 unfold sJ
 constructor
 ·intro h k hk
  have:=h k hk
  rw [jb xs hk] at this
  omega
 intro h k hk
 rw [jb xs hk,h k hk]
 rfl
theorem dX (k:Int) (bs:List Blk) (b:Blk):bA k (bs++[b])=bA k bs++if b.kind=k then [b.item] else []:=by simp [bA]
def av (es:List LeT):List Int:=es.flatMap fun e=>if 0<=e.lut then [e.lut] else []
def bX (es:List LeT):List Int:=es.flatMap fun e=>if 0<=e.ff then [e.ff] else []
theorem jY (es:List LeT) (e:LeT):av (es++[e])=av es++if 0<=e.lut then [e.lut] else []:=by simp [av]
theorem kN (es:List LeT) (e:LeT):bX (es++[e])=bX es++if 0<=e.ff then [e.ff] else []:=by simp [bX]
theorem jZ (bs:List Blk) (b:Blk):eT (bs++[b])=eT bs++av b.les:=by simp [eT,av]
theorem ja (bs:List Blk) (b:Blk):di (bs++[b])=(di bs++if b.kind=2 then [b.item] else [])++bX b.les:=by simp [di,bX]
/-! ### placements -/
theorem kg {α β:Type} {f:α→List β} {m:Nat}:∀{xs:List α},(∀x∈xs,(f x).length<=m)→(xs.flatMap f).length<=xs.length * m
 | [],_=>by simp
 | x :: xs,h=>by
  rw [List.flatMap_cons,List.length_append,List.length_cons,Nat.succ_mul]
  have h1:=h x (by simp)
  have h2:=kg (xs:=xs) fun y g=>h y (by simp [g])
  omega
theorem jM {l:ag} (hn:az l) (k:Nat):((l.luts.take k).flatMap Lt.ins).length<=1600:=by
 have h:=kg (f:=Lt.ins) (m:=4) (xs:=l.luts.take k) fun x g=>by
  obtain ⟨i,hi,rfl⟩:=List.getElem_of_mem (List.mem_of_mem_take g)
  have:=(hn.luts i hi).1
  rwa [List.getElem?_eq_getElem hi] at this
 have h2:(l.luts.take k).length<=l.luts.length:=by rw [List.length_take];omega
 have:=hn.nlut
 have:=Nat.mul_le_mul_right 4 h2
 omega
theorem mf {l:ag} (hn:az l) (k:Nat):((l.seqs.take k).flatMap Sq.ins).length<=48:=by
 have h:=kg (f:=Sq.ins) (m:=4) (xs:=l.seqs.take k) fun x g=>by
  obtain ⟨i,hi,rfl⟩:=List.getElem_of_mem (List.mem_of_mem_take g)
  have:=(hn.seqs i hi).1
  rw [List.getElem?_eq_getElem hi] at this
  rcases this with h|h <;> simp only [Option.getD_some] at h <;> omega
 have h2:(l.seqs.take k).length<=l.seqs.length:=by rw [List.length_take];omega
 have:=hn.nseq
 have:=Nat.mul_le_mul_right 4 h2
 omega
def ko (l:ag):List Int:=l.luts.flatMap Lt.ins++l.seqs.flatMap Sq.ins++l.outs
theorem ym (l:ag) (n:Int):Ad l n=cnt (ko l) n:=Et l n
def lI (bs xs:List Int) (j:Nat):List Int:=bs++xs.take j
theorem mg (bs xs:List Int):lI bs xs 0=bs:=by simp [lI]
theorem mh {bs xs:List Int} {n:Nat} (h:xs.length=n):lI bs xs n=bs++xs:=by rw [lI,List.take_of_length_le (by omega)]
theorem mi {bs xs:List Int} {j:Nat} (h:j<xs.length):lI bs xs j++[xs[j]?.getD 0]=lI bs xs (j+1):=by
 rw [lI,lI,bU (z:=0) h,List.append_assoc]
theorem ol (bs xs:List Int) (j:Nat):(lI bs xs j).length<=bs.length+xs.length:=by
 rw [lI,List.length_append,List.length_take];omega
theorem wS {l:ag} {k:Nat} (h:k<l.luts.length):(l.luts.take k).flatMap Lt.ins++(l.luts[k]?.getD Lt.zero).ins=(l.luts.take (k+1)).flatMap Lt.ins:=by
 rw [bU (z:=Lt.zero) h];simp
theorem uZ {l:ag} {k:Nat} (h:k<l.seqs.length):(l.seqs.take k).flatMap Sq.ins++(l.seqs[k]?.getD Sq.zero).ins=(l.seqs.take (k+1)).flatMap Sq.ins:=by
 rw [bU (z:=Sq.zero) h];simp
theorem om {q wr:World} {C g:Nat} {xs:List Int} {X:Nat} (hs:aJ q wr [.cel (aH (aG C xs)) (.slice (some ⟨g,0,none⟩) C C)]) (j:X<C) :
  wr.cell? ⟨g,X,none⟩=some (.int .i64 ((cnt xs (X:Int):Nat):Int))/\wr.frozen? ⟨g,X,none⟩=false/\g<wr.heap.size/\aJ q (wr.setCell ⟨g,X,none⟩ (.int .i64 (((cnt xs (X:Int):Nat):Int)+1))) [.cel (aH (aG C (xs++[(X:Int)]))) (.slice (some ⟨g,0,none⟩) C C)]:=by
 obtain ⟨B,hg,_,h2,h3,h4,h5⟩:=hs.setI 0 rfl j
 injection hg with hg
 injection hg with hg
 subst hg
 rw [jb xs j] at h3
 refine ⟨h3,h4,h2,?_⟩
 have z:=h5 (((cnt xs (X:Int):Nat):Int)+1)
 have u:=tq (m:=C) xs (x:=(X:Int)) (by omega)
 rw [Int.toNat_natCast] at u
 rw [u] at z
 exact z
end Go.Proofs.YtofihjoanjkdmaaGreat
