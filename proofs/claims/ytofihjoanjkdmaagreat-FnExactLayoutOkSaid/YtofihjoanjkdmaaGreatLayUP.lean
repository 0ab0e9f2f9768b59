/- The program's test whether a network of look-up tables is valid: of networks that are. -/
import Derived.Test.YtofihjoanjkdmaaGreatLayP2
import Derived.Test.YtofihjoanjkdmaaGreatNetRd
import Derived.Test.YtofihjoanjkdmaaGreatQb
namespace Go.Proofs.YtofihjoanjkdmaaGreat
set_option maxHeartbeats 4000000
set_option maxRecDepth 100000
open Go.RowKit
theorem qj (l:ai) (SA LA OA:Option Addr) (sn sc ln lc on oc:Nat) (w:World) (hi:0<=l.inputs/\l.inputs<=20) (h1:sn<=12) (h2:ln<=400) (h3:on<=16) :
  Calls Tryz.prog 174 #[iD l SA LA OA sn sc ln lc on oc] w fun e w'=>e = .returned (.int .i64 (1+l.inputs+(sn:Int)+(ln:Int)))/\Below w.heap.size w w':=by
 have HB0:=Hd (aF (Below.refl w.heap.size w) (.cells (av l SA LA OA sn sc ln lc on oc) 41))
 have HR:Hid (inR l.inputs 0 20=true):=aV.2 hi
 have d1:decide ((12:Int)<(sn:Int))=false:=decide_eq_false (by omega)
 have d2:decide ((400:Int)<(ln:Int))=false:=decide_eq_false (by omega)
 have d3:decide ((16:Int)<(on:Int))=false:=decide_eq_false (by omega)
 go_enter Tryz.func174,Tryz.ntmps174
 go_wp2_with fail
 refine (aN l.inputs 0 20 _).mono ?_
 rw [HR.out]
 rintro _ w1 ⟨rfl,rfl⟩
 go_wp2_with fail
 refine (oU l.inputs SA LA OA sn sc ln lc on oc _ hi.1 (by omega) (by omega) (by omega)).mono ?_
 rintro _ w2 ⟨rfl,b2⟩
 have HB2:=Hd (aB HB0.out b2)
 clear b2
 go_wp2_with fail
 go_ret
 exact ⟨rfl,HB2.out⟩
theorem wZ (m:Int) (w:World) (hm:0<=m/\m<=1) :
  Calls Tryz.prog 178 #[.agg #[.int .i64 0,.int .i64 m]] w fun e w'=>e = .returned (.bool true)/\Below w.heap.size w w':=by
 have HB0:=Hd (aF (Below.refl w.heap.size w) (.cells #[.int .i64 0,.int .i64 m] 188))
 have HR:Hid (inR 0 0 4=true):=by show _=_;decide
 have HR2:Hid (inR m 0 1=true):=aV.2 hm
 clear hm
 go_enter Tryz.func178,Tryz.ntmps178
 go_wp2_with fail
 refine (aN _ 0 4 _).mono ?_
 rw [HR.out]
 rintro _ w1 ⟨rfl,rfl⟩
 go_wp2_with fail
 refine (aN m 0 1 _).mono ?_
 rw [HR2.out]
 rintro _ w1 ⟨rfl,rfl⟩
 go_wp2_with fail
 go_ret
 exact ⟨rfl,HB0.out⟩
theorem wh (m:Int) (w:World) (hm:0<=m/\m<=3) :
  Calls Tryz.prog 178 #[.agg #[.int .i64 1,.int .i64 m]] w fun e w'=>e = .returned (.bool true)/\Below w.heap.size w w':=by
 have HB0:=Hd (aF (Below.refl w.heap.size w) (.cells #[.int .i64 1,.int .i64 m] 188))
 have HR:Hid (inR 1 0 4=true):=by show _=_;decide
 have HR2:Hid (inR m 0 3=true):=aV.2 hm
 clear hm
 go_enter Tryz.func178,Tryz.ntmps178
 go_wp2_with fail
 refine (aN _ 0 4 _).mono ?_
 rw [HR.out]
 rintro _ w1 ⟨rfl,rfl⟩
 go_wp2_with fail
 refine (aN m 0 3 _).mono ?_
 rw [HR2.out]
 rintro _ w1 ⟨rfl,rfl⟩
 go_wp2_with fail
 go_ret
 exact ⟨rfl,HB0.out⟩
theorem wm (m:Int) (w:World) (hm:0<=m/\m<=15) :
  Calls Tryz.prog 178 #[.agg #[.int .i64 2,.int .i64 m]] w fun e w'=>e = .returned (.bool true)/\Below w.heap.size w w':=by
 have HB0:=Hd (aF (Below.refl w.heap.size w) (.cells #[.int .i64 2,.int .i64 m] 188))
 have HR:Hid (inR 2 0 4=true):=by show _=_;decide
 have HR2:Hid (inR m 0 15=true):=aV.2 hm
 clear hm
 go_enter Tryz.func178,Tryz.ntmps178
 go_wp2_with fail
 refine (aN _ 0 4 _).mono ?_
 rw [HR.out]
 rintro _ w1 ⟨rfl,rfl⟩
 go_wp2_with fail
 refine (aN m 0 15 _).mono ?_
 rw [HR2.out]
 rintro _ w1 ⟨rfl,rfl⟩
 go_wp2_with fail
 go_ret
 exact ⟨rfl,HB0.out⟩
theorem wu (m:Int) (w:World) (hm:0<=m/\m<=255) :
  Calls Tryz.prog 178 #[.agg #[.int .i64 3,.int .i64 m]] w fun e w'=>e = .returned (.bool true)/\Below w.heap.size w w':=by
 have HB0:=Hd (aF (Below.refl w.heap.size w) (.cells #[.int .i64 3,.int .i64 m] 188))
 have HR:Hid (inR 3 0 4=true):=by show _=_;decide
 have HR2:Hid (inR m 0 255=true):=aV.2 hm
 clear hm
 go_enter Tryz.func178,Tryz.ntmps178
 go_wp2_with fail
 refine (aN _ 0 4 _).mono ?_
 rw [HR.out]
 rintro _ w1 ⟨rfl,rfl⟩
 go_wp2_with fail
 refine (aN m 0 255 _).mono ?_
 rw [HR2.out]
 rintro _ w1 ⟨rfl,rfl⟩
 go_wp2_with fail
 go_ret
 exact ⟨rfl,HB0.out⟩
theorem ww (m:Int) (w:World) (hm:0<=m/\m<=65535) :
  Calls Tryz.prog 178 #[.agg #[.int .i64 4,.int .i64 m]] w fun e w'=>e = .returned (.bool true)/\Below w.heap.size w w':=by
 have HB0:=Hd (aF (Below.refl w.heap.size w) (.cells #[.int .i64 4,.int .i64 m] 188))
 have HR:Hid (inR 4 0 4=true):=by show _=_;decide
 have HR2:Hid (inR m 0 65535=true):=aV.2 hm
 clear hm
 go_enter Tryz.func178,Tryz.ntmps178
 go_wp2_with fail
 refine (aN _ 0 4 _).mono ?_
 rw [HR.out]
 rintro _ w1 ⟨rfl,rfl⟩
 go_wp2_with fail
 refine (aN m 0 65535 _).mono ?_
 rw [HR2.out]
 rintro _ w1 ⟨rfl,rfl⟩
 go_wp2_with fail
 go_ret
 exact ⟨rfl,HB0.out⟩
theorem tX (n:Nat) (m:Int) (w:World) (hn:n<=4) (hm:0<=m/\m<2 ^ 2 ^ n) :
  Calls Tryz.prog 178 #[.agg #[.int .i64 (n:Int),.int .i64 m]] w fun e w'=>e = .returned (.bool true)/\Below w.heap.size w w':=by
 have hc:n=0∨n=1∨n=2∨n=3∨n=4:=by omega
 rcases hc with rfl|rfl|rfl|rfl|rfl
 ·exact wZ m w ⟨hm.1,by have h:=hm.2;simp at h;omega⟩
 ·exact wh m w ⟨hm.1,by have h:=hm.2;simp at h;omega⟩
 ·exact wm m w ⟨hm.1,by have h:=hm.2;simp at h;omega⟩
 ·exact wu m w ⟨hm.1,by have h:=hm.2;simp at h;omega⟩
 ·exact ww m w ⟨hm.1,by have h:=hm.2;simp at h;omega⟩
theorem jR (In:Int) (SA LA OA:Option Addr) (sn sc ln lc on oc:Nat) (w:World) (h0:0<=In) (h1:In<=1099511627776) (h2:sn<=1099511627776) :
  Calls Tryz.prog 177 #[.agg #[.int .i64 In,.slice SA sn sc,.slice LA ln lc,.slice OA on oc]] w fun e w'=>e = .returned (.int .i64 (1+In+(sn:Int)))/\Below w.heap.size w w':=by
 go_enter Tryz.func177,Tryz.ntmps177
 go_wp2
 go_ret
 exact ⟨rfl,aF (Below.refl _ _) _⟩
noncomputable def tb (P:Prop):Bool:=@decide P (Classical.propDecidable P)
theorem aa {P:Prop} (h:P):tb P=true:=by unfold tb;exact @decide_eq_true P (Classical.propDecidable P) h
theorem bF {P:Prop} (h:¬P):tb P=false:=by unfold tb;exact @decide_eq_false P (Classical.propDecidable P) h
theorem cO {P:Prop} (h:P):Ending.returned (.bool true) = .returned (.bool (tb P)):=by rw [aa h]
theorem aP {P:Prop} (h:¬P):Ending.returned (.bool false) = .returned (.bool (tb P)):=by rw [bF h]
def ig (xs:List Int) (m:Int):Prop:=∀x∈xs,0<=x/\x<m
def ik (k y:Int) (n:Nat):Prop:=k=0/\(0<=y/\y<=1)/\n=1∨k=1/\(0<=y/\y<=31)/\n=4
def gD (n:Nat) (m:Int):Prop:=n<=4/\0<=m/\m<2 ^ 2 ^ n
theorem kS (A:Option Addr) (n c:Nat) (xs:List Int) (m:Int) (w:World) (h:dA w A n xs) (hn:n<=1048576) (hm:0<=m/\m<=1048576) :
  Calls Tryz.prog 175 #[.slice A n c,.int .i64 m] w fun e w'=>e = .returned (.bool (tb (ig xs m)))/\w=w':=by
 have HI:=Hd h
 clear h
 go_enter Tryz.func175,Tryz.ntmps175
 go_wp2_with fail
 go_loopw [9] (fun i wr=>∃k:Nat,k<=n/\i = .int .i64 (k:Int)/\w=wr/\∀j,j<k→0<=xs[j]?.getD 0/\xs[j]?.getD 0<m) (fun i _=>n - (intOf i).toNat)
 case atStart=>exact ⟨0,by omega,rfl,rfl,fun j hj=>by omega⟩
 case round =>
  obtain ⟨k,hk,rfl,rfl,hall⟩:=hrel
  have HALL:=Hd hall
  clear hall
  by_cases hlt:k<n
  ·have hdk:decide ((k:Int)<(n:Int))=true:=by simp;omega
   obtain ⟨b,o,rfl,hb,hc⟩:=HI.out.2 (by omega)
   have hck:=hc k hlt
   have hkl:k<xs.length:=by rw [HI.out.1];exact hlt
   have HMM:=Hd (List.getElem_mem hkl)
   have HG:Hid (0<=xs[k]?.getD 0/\xs[k]?.getD 0<m→∀j,j<k+1→0<=xs[j]?.getD 0/\xs[j]?.getD 0<m):=fun h=>bS HALL.out h
   rw [List.getElem?_eq_getElem hkl,Option.getD_some] at hck HG
   generalize xs[k]=x at *
   have i0:(0:Int)<=(k:Int):=by omega
   have i1:(k:Int)<(n:Int):=by omega
   clear hc
   by_cases hx:0<=x/\x<m
   ·have HR:Hid (inR x 0 (m - 1)=true):=aV.2 ⟨hx.1,by have:=hx.2;omega⟩
    have HG2:=Hd (HG.out hx)
    clear hx HG
    go_wp2_with fail
    refine (aN x 0 (m - 1) _).mono ?_
    rw [HR.out]
    rintro _ w' ⟨rfl,rfl⟩
    go_wp2_with fail
    go_roundw
    case rel=>exact ⟨k+1,by omega,by go_num,by first|rfl|trivial,HG2.out⟩
    case measure=>simp [intOf];omega
   ·have HR:Hid (inR x 0 (m - 1)=false):=by
     show _=_
     cases h:inR x 0 (m - 1) with
     | false=>rfl
     | true=>exact absurd (by have:=aV.1 h;omega) hx
    have HN:Hid (¬ig xs m):=fun h=>hx (h x HMM.out)
    clear hx HG
    go_wp2_with fail
    refine (aN x 0 (m - 1) _).mono ?_
    rw [HR.out]
    rintro _ w' ⟨rfl,rfl⟩
    go_wp2_with fail
    go_ret
    exact ⟨aP HN.out,rfl⟩
  ·have hkn:k=n:=by omega
   subst hkn
   have hdk:decide ((k:Int)<(k:Int))=false:=by simp
   go_wp2_with fail
   go_ret
   refine ⟨cO fun x hx=>?_,rfl⟩
   obtain ⟨j,hj,rfl⟩:=List.getElem_of_mem hx
   have:=HALL.out j (by rw [←HI.out.1];exact hj)
   rwa [List.getElem?_eq_getElem hj,Option.getD_some] at this
theorem xA (k y:Int) (A:Option Addr) (n c:Nat) (w:World) :
  Calls Tryz.prog 176 #[.agg #[.int .i64 k,.int .i64 y,.slice A n c]] w fun e w'=>e = .returned (.bool (tb (ik k y n)))/\Below w.heap.size w w':=by
 have HB0:=Hd (aF (Below.refl w.heap.size w) (.cells #[.int .i64 k,.int .i64 y,.slice A n c] 91))
 by_cases h0:k=0
 ·subst h0
  cases hr:inR y 0 1 with
  | false =>
   have HN:Hid (¬ik 0 y n):=by
    rintro (h|h)
    ·rw [aV.2 h.2.1] at hr;cases hr
    ·omega
   have HR:=Hd hr
   clear hr
   go_enter Tryz.func176,Tryz.ntmps176
   go_wp2_with fail
   refine (aN y 0 1 _).mono ?_
   rw [HR.out]
   rintro _ w1 ⟨rfl,rfl⟩
   go_wp2_with fail
   go_ret
   exact ⟨aP HN.out,HB0.out⟩
  | true =>
   have HR:=Hd hr
   clear hr
   by_cases hn1:n=1
   ·have d1:((n:Int)==1)=true:=by simp;omega
    have HN:Hid (ik 0 y n) := .inl ⟨rfl,aV.1 HR.out,hn1⟩
    clear hn1
    go_enter Tryz.func176,Tryz.ntmps176
    go_wp2_with fail
    refine (aN y 0 1 _).mono ?_
    rw [HR.out]
    rintro _ w1 ⟨rfl,rfl⟩
    go_wp2_with fail
    go_ret
    exact ⟨cO HN.out,HB0.out⟩
   ·have d1:((n:Int)==1)=false:=by simp;omega
    have HN:Hid (¬ik 0 y n):=by
     rintro (h|h)
     ·exact hn1 h.2.2
     ·omega
    clear hn1
    go_enter Tryz.func176,Tryz.ntmps176
    go_wp2_with fail
    refine (aN y 0 1 _).mono ?_
    rw [HR.out]
    rintro _ w1 ⟨rfl,rfl⟩
    go_wp2_with fail
    go_ret
    exact ⟨aP HN.out,HB0.out⟩
 ·by_cases h1:k=1
  ·subst h1
   cases hr:inR y 0 31 with
   | false =>
    have HN:Hid (¬ik 1 y n):=by
     rintro (h|h)
     ·omega
     ·rw [aV.2 h.2.1] at hr;cases hr
    have HR:=Hd hr
    clear hr h0
    go_enter Tryz.func176,Tryz.ntmps176
    go_wp2_with fail
    refine (aN y 0 31 _).mono ?_
    rw [HR.out]
    rintro _ w1 ⟨rfl,rfl⟩
    go_wp2_with fail
    go_ret
    exact ⟨aP HN.out,HB0.out⟩
   | true =>
    have HR:=Hd hr
    clear hr h0
    by_cases hn1:n=4
    ·have d1:((n:Int)==4)=true:=by simp;omega
     have HN:Hid (ik 1 y n) := .inr ⟨rfl,aV.1 HR.out,hn1⟩
     clear hn1
     go_enter Tryz.func176,Tryz.ntmps176
     go_wp2_with fail
     refine (aN y 0 31 _).mono ?_
     rw [HR.out]
     rintro _ w1 ⟨rfl,rfl⟩
     go_wp2_with fail
     go_ret
     exact ⟨cO HN.out,HB0.out⟩
    ·have d1:((n:Int)==4)=false:=by simp;omega
     have HN:Hid (¬ik 1 y n):=by
      rintro (h|h)
      ·omega
      ·exact hn1 h.2.2
     clear hn1
     go_enter Tryz.func176,Tryz.ntmps176
     go_wp2_with fail
     refine (aN y 0 31 _).mono ?_
     rw [HR.out]
     rintro _ w1 ⟨rfl,rfl⟩
     go_wp2_with fail
     go_ret
     exact ⟨aP HN.out,HB0.out⟩
  ·have d0:(k==0)=false:=by simp;omega
   have d1:(k==1)=false:=by simp;omega
   have d0':((0:Int)==k)=false:=by simp;omega
   have d1':((1:Int)==k)=false:=by simp;omega
   have HN:Hid (¬ik k y n):=by
    rintro (h|h)
    ·exact h0 h.1
    ·exact h1 h.1
   clear h0 h1
   go_enter Tryz.func176,Tryz.ntmps176
   go_wp2_with fail
   go_ret
   exact ⟨aP HN.out,HB0.out⟩
theorem tY (m:Int) (w:World) (hm:¬(0<=m/\m<=1)) :
  Calls Tryz.prog 178 #[.agg #[.int .i64 0,.int .i64 m]] w fun e w'=>e = .returned (.bool false)/\Below w.heap.size w w':=by
 have HB0:=Hd (aF (Below.refl w.heap.size w) (.cells #[.int .i64 0,.int .i64 m] 188))
 have HR:Hid (inR 0 0 4=true):=by show _=_;decide
 have HR2:Hid (inR m 0 1=false):=by
  show _=_
  cases h:inR m 0 1 with
  | false=>rfl
  | true=>exact absurd (aV.1 h) hm
 clear hm
 go_enter Tryz.func178,Tryz.ntmps178
 go_wp2_with fail
 refine (aN _ 0 4 _).mono ?_
 rw [HR.out]
 rintro _ w1 ⟨rfl,rfl⟩
 go_wp2_with fail
 refine (aN m 0 1 _).mono ?_
 rw [HR2.out]
 rintro _ w1 ⟨rfl,rfl⟩
 go_wp2_with fail
 go_ret
 exact ⟨rfl,HB0.out⟩
theorem tZ (m:Int) (w:World) (hm:¬(0<=m/\m<=3)) :
  Calls Tryz.prog 178 #[.agg #[.int .i64 1,.int .i64 m]] w fun e w'=>e = .returned (.bool false)/\Below w.heap.size w w':=by
 have HB0:=Hd (aF (Below.refl w.heap.size w) (.cells #[.int .i64 1,.int .i64 m] 188))
 have HR:Hid (inR 1 0 4=true):=by show _=_;decide
 have HR2:Hid (inR m 0 3=false):=by
  show _=_
  cases h:inR m 0 3 with
  | false=>rfl
  | true=>exact absurd (aV.1 h) hm
 clear hm
 go_enter Tryz.func178,Tryz.ntmps178
 go_wp2_with fail
 refine (aN _ 0 4 _).mono ?_
 rw [HR.out]
 rintro _ w1 ⟨rfl,rfl⟩
 go_wp2_with fail
 refine (aN m 0 3 _).mono ?_
 rw [HR2.out]
 rintro _ w1 ⟨rfl,rfl⟩
 go_wp2_with fail
 go_ret
 exact ⟨rfl,HB0.out⟩
theorem tq (m:Int) (w:World) (hm:¬(0<=m/\m<=15)) :
  Calls Tryz.prog 178 #[.agg #[.int .i64 2,.int .i64 m]] w fun e w'=>e = .returned (.bool false)/\Below w.heap.size w w':=by
 have HB0:=Hd (aF (Below.refl w.heap.size w) (.cells #[.int .i64 2,.int .i64 m] 188))
 have HR:Hid (inR 2 0 4=true):=by show _=_;decide
 have HR2:Hid (inR m 0 15=false):=by
  show _=_
  cases h:inR m 0 15 with
  | false=>rfl
  | true=>exact absurd (aV.1 h) hm
 clear hm
 go_enter Tryz.func178,Tryz.ntmps178
 go_wp2_with fail
 refine (aN _ 0 4 _).mono ?_
 rw [HR.out]
 rintro _ w1 ⟨rfl,rfl⟩
 go_wp2_with fail
 refine (aN m 0 15 _).mono ?_
 rw [HR2.out]
 rintro _ w1 ⟨rfl,rfl⟩
 go_wp2_with fail
 go_ret
 exact ⟨rfl,HB0.out⟩
theorem tu (m:Int) (w:World) (hm:¬(0<=m/\m<=255)) :
  Calls Tryz.prog 178 #[.agg #[.int .i64 3,.int .i64 m]] w fun e w'=>e = .returned (.bool false)/\Below w.heap.size w w':=by
 have HB0:=Hd (aF (Below.refl w.heap.size w) (.cells #[.int .i64 3,.int .i64 m] 188))
 have HR:Hid (inR 3 0 4=true):=by show _=_;decide
 have HR2:Hid (inR m 0 255=false):=by
  show _=_
  cases h:inR m 0 255 with
  | false=>rfl
  | true=>exact absurd (aV.1 h) hm
 clear hm
 go_enter Tryz.func178,Tryz.ntmps178
 go_wp2_with fail
 refine (aN _ 0 4 _).mono ?_
 rw [HR.out]
 rintro _ w1 ⟨rfl,rfl⟩
 go_wp2_with fail
 refine (aN m 0 255 _).mono ?_
 rw [HR2.out]
 rintro _ w1 ⟨rfl,rfl⟩
 go_wp2_with fail
 go_ret
 exact ⟨rfl,HB0.out⟩
theorem uA (m:Int) (w:World) (hm:¬(0<=m/\m<=65535)) :
  Calls Tryz.prog 178 #[.agg #[.int .i64 4,.int .i64 m]] w fun e w'=>e = .returned (.bool false)/\Below w.heap.size w w':=by
 have HB0:=Hd (aF (Below.refl w.heap.size w) (.cells #[.int .i64 4,.int .i64 m] 188))
 have HR:Hid (inR 4 0 4=true):=by show _=_;decide
 have HR2:Hid (inR m 0 65535=false):=by
  show _=_
  cases h:inR m 0 65535 with
  | false=>rfl
  | true=>exact absurd (aV.1 h) hm
 clear hm
 go_enter Tryz.func178,Tryz.ntmps178
 go_wp2_with fail
 refine (aN _ 0 4 _).mono ?_
 rw [HR.out]
 rintro _ w1 ⟨rfl,rfl⟩
 go_wp2_with fail
 refine (aN m 0 65535 _).mono ?_
 rw [HR2.out]
 rintro _ w1 ⟨rfl,rfl⟩
 go_wp2_with fail
 go_ret
 exact ⟨rfl,HB0.out⟩
theorem uB (n:Nat) (m:Int) (w:World) (hn:n<=4) :
  Calls Tryz.prog 178 #[.agg #[.int .i64 (n:Int),.int .i64 m]] w fun e w'=>e = .returned (.bool (tb (gD n m)))/\Below w.heap.size w w':=by
 by_cases hm:gD n m
 ·rw [aa hm]
  exact tX n m w hm.1 hm.2
 ·rw [bF hm]
  have hc:n=0∨n=1∨n=2∨n=3∨n=4:=by omega
  rcases hc with rfl|rfl|rfl|rfl|rfl
  ·exact tY m w fun h=>hm ⟨by omega,h.1,by have h2:=h.2;simp;omega⟩
  ·exact tZ m w fun h=>hm ⟨by omega,h.1,by have h2:=h.2;simp;omega⟩
  ·exact tq m w fun h=>hm ⟨by omega,h.1,by have h2:=h.2;simp;omega⟩
  ·exact tu m w fun h=>hm ⟨by omega,h.1,by have h2:=h.2;simp;omega⟩
  ·exact uA m w fun h=>hm ⟨by omega,h.1,by have h2:=h.2;simp;omega⟩
theorem rX (l:ai) (SA LA OA:Option Addr) (sn sc ln lc on oc:Nat) (w:World) (h:¬((0<=l.inputs/\l.inputs<=20)/\sn<=12/\ln<=400/\on<=16)) :
  Calls Tryz.prog 174 #[iD l SA LA OA sn sc ln lc on oc] w fun e w'=>e = .returned (.int .i64 0)/\Below w.heap.size w w':=by
 have HB0:=Hd (aF (Below.refl w.heap.size w) (.cells (av l SA LA OA sn sc ln lc on oc) 41))
 cases hr:inR l.inputs 0 20 with
 | false =>
  have HR:=Hd hr
  clear hr h
  go_enter Tryz.func174,Tryz.ntmps174
  go_wp2_with fail
  refine (aN l.inputs 0 20 _).mono ?_
  rw [HR.out]
  rintro _ w1 ⟨rfl,rfl⟩
  go_wp2_with fail
  go_ret
  exact ⟨rfl,HB0.out⟩
 | true =>
  have HR:=Hd hr
  have hi:=aV.1 hr
  clear hr
  by_cases h1:sn<=12
  ·have d1:decide ((12:Int)<(sn:Int))=false:=decide_eq_false (by omega)
   by_cases h2:ln<=400
   ·have d2:decide ((400:Int)<(ln:Int))=false:=decide_eq_false (by omega)
    have h3:¬on<=16:=fun h3=>h ⟨hi,h1,h2,h3⟩
    have d3:decide ((16:Int)<(on:Int))=true:=decide_eq_true (by omega)
    clear h h1 h2 h3 hi
    go_enter Tryz.func174,Tryz.ntmps174
    go_wp2_with fail
    refine (aN l.inputs 0 20 _).mono ?_
    rw [HR.out]
    rintro _ w1 ⟨rfl,rfl⟩
    go_wp2_with fail
    go_ret
    exact ⟨rfl,HB0.out⟩
   ·have d2:decide ((400:Int)<(ln:Int))=true:=decide_eq_true (by omega)
    clear h h1 h2 hi
    go_enter Tryz.func174,Tryz.ntmps174
    go_wp2_with fail
    refine (aN l.inputs 0 20 _).mono ?_
    rw [HR.out]
    rintro _ w1 ⟨rfl,rfl⟩
    go_wp2_with fail
    go_ret
    exact ⟨rfl,HB0.out⟩
  ·have d1:decide ((12:Int)<(sn:Int))=true:=decide_eq_true (by omega)
   clear h h1 hi
   go_enter Tryz.func174,Tryz.ntmps174
   go_wp2_with fail
   refine (aN l.inputs 0 20 _).mono ?_
   rw [HR.out]
   rintro _ w1 ⟨rfl,rfl⟩
   go_wp2_with fail
   go_ret
   exact ⟨rfl,HB0.out⟩
theorem mI (l:ai) (SA LA OA:Option Addr) (sn sc ln lc on oc:Nat) (w:World) (h:fI w l SA LA OA sn sc ln lc on oc) :
  Calls Tryz.prog 91 #[iD l SA LA OA sn sc ln lc on oc] w fun e w'=>e = .returned (.bool (tb (bB l)))/\Below w.heap.size w w':=by
 have HB0:=Hd (aF (Below.refl w.heap.size w) (.cells (av l SA LA OA sn sc ln lc on oc) 41))
 have HBX:=Hd (aK w (.cells (av l SA LA OA sn sc ln lc on oc) 41))
 obtain ⟨hsl,hll,hol⟩:=h.lens
 have HN:=Hd h
 have HSL:=Hd hsl
 have HLL:=Hd hll
 have HOL:=Hd hol
 clear h hsl hll hol
 by_cases hz:(0<=l.inputs/\l.inputs<=20)/\sn<=12/\ln<=400/\on<=16
 ·obtain ⟨hin,hsn12,hln,hon⟩:=hz
  have HC:Hid ((l.count:Int)=1+l.inputs+(sn:Int)+(ln:Int)):=by show _=_;have:=HSL.out;have:=HLL.out;unfold ai.count ai.first;omega
  have HFI:Hid ((l.first:Int)=1+l.inputs+(sn:Int)):=by show _=_;have:=HSL.out;unfold ai.first;omega
  have hN0:((1+l.inputs+(sn:Int)+(ln:Int))==0)=false:=by simp;omega
  have HB1:Hid (0<=1+l.inputs+(sn:Int)+(ln:Int)/\1+l.inputs+(sn:Int)+(ln:Int)<=1048576):=⟨by omega,by omega⟩
  have HIN:=Hd hin
  clear hin
  go_enter Tryz.func91,Tryz.ntmps91
  go_wp2_with fail
  refine (qj l SA LA OA sn sc ln lc on oc _ HIN.out hsn12 hln hon).mono ?_
  rintro _ w1 ⟨rfl,b1⟩
  have B1:=Hd b1
  have HX1:=Hd (aD b1 HBX.out)
  have x1:=aA (k:=1) HX1.out rfl
  have x2:=aA (k:=2) HX1.out rfl
  have x3:=aA (k:=3) HX1.out rfl
  have lx:=aC HX1.out
  clear b1
  go_wp2_with fail
  refine (kS OA on oc l.outs _ _ (HN.out.below (aB HB0.out B1.out)).ou.ints (by omega) HB1.out).mono ?_
  by_cases hou:ig l.outs (1+l.inputs+(sn:Int)+(ln:Int))
  ·rw [aa hou]
   have HOU:=Hd hou
   clear hou
   rintro _ w2 ⟨rfl,rfl⟩
   go_wp2_with fail
   go_loopw [22] (fun i wr=>∃k:Nat,k<=sn/\i = .int .i64 (k:Int)/\Below w1.heap.size w1 wr/\∀j,j<k→ik (l.seqs[j]?.getD Sq.zero).kind (l.seqs[j]?.getD Sq.zero).init (l.seqs[j]?.getD Sq.zero).ins.length/\ig (l.seqs[j]?.getD Sq.zero).ins (1+l.inputs+(sn:Int)+(ln:Int))) (fun i _=>sn - (intOf i).toNat)
   case atStart=>exact ⟨0,by omega,rfl,Below.refl _ _,fun j hj=>by omega⟩
   case round =>
    obtain ⟨k,hk,rfl,hb,hall⟩:=hrel
    have HB:=Hd hb
    have HALL:=Hd hall
    clear hb hall
    by_cases hlt:k<sn
    ·have hdk:decide ((k:Int)<(sn:Int))=true:=by simp;omega
     have HNR:=Hd (HN.out.below (aB (aB HB0.out B1.out) HB.out))
     obtain ⟨b,o,S,m,p,rfl,hbl,c0,c1,c2,r2⟩:=HNR.out.sq.sq' (k:=k) (by rw [HSL.out];exact hlt)
     have hm:(l.seqs[k]?.getD Sq.zero).ins.length=m:=r2.ints.1
     have HR2:=Hd r2
     have HG:Hid (ik (l.seqs[k]?.getD Sq.zero).kind (l.seqs[k]?.getD Sq.zero).init m/\ig (l.seqs[k]?.getD Sq.zero).ins (1+l.inputs+(sn:Int)+(ln:Int))→∀j,j<k+1→ik (l.seqs[j]?.getD Sq.zero).kind (l.seqs[j]?.getD Sq.zero).init (l.seqs[j]?.getD Sq.zero).ins.length/\ig (l.seqs[j]?.getD Sq.zero).ins (1+l.inputs+(sn:Int)+(ln:Int))):=fun h=>bS HALL.out (by rw [hm];exact h)
     have HNO:Hid (¬(ik (l.seqs[k]?.getD Sq.zero).kind (l.seqs[k]?.getD Sq.zero).init m/\ig (l.seqs[k]?.getD Sq.zero).ins (1+l.inputs+(sn:Int)+(ln:Int)))→¬bB l):=fun h hf=>h (by
      have h1:=hf.seqs k (by rw [HSL.out];exact hlt)
      rw [hm] at h1
      exact ⟨h1.1,by rw [←HC.out];exact h1.2⟩)
     generalize l.seqs[k]?.getD Sq.zero=s at *
     have i0:(0:Int)<=(k:Int):=by omega
     have i1:(k:Int)<(sn:Int):=by omega
     clear r2 hm x1 x2 x3 lx
     go_wp2_with fail
     refine (xA s.kind s.init S m p _).mono ?_
     by_cases hok:ik s.kind s.init m
     ·rw [aa hok]
      have hm4:m<=4:=by rcases hok with h|h <;> omega
      have HOK:=Hd hok
      clear hok
      rintro _ w3 ⟨rfl,b3⟩
      have y2:=aA (k:=2) (aD b3 (aK wr (.cells #[.int .i64 s.kind,.int .i64 s.init,.slice S m p] 91))) rfl
      have ly:=aC (aD b3 (aK wr (.cells #[.int .i64 s.kind,.int .i64 s.init,.slice S m p] 91)))
      have HB3:=Hd (aB (aF (Below.refl wr.heap.size wr) (.cells #[.int .i64 s.kind,.int .i64 s.init,.slice S m p] 91)) b3)
      clear b3 c0 c1 c2
      go_wp2_with fail
      refine (kS S m p s.ins _ _ (HR2.out.below HB3.out).ints (by omega) HB1.out).mono ?_
      by_cases hbe:ig s.ins (1+l.inputs+(sn:Int)+(ln:Int))
      ·rw [aa hbe]
       have HG2:=Hd (HG.out ⟨HOK.out,hbe⟩)
       clear hbe HG HNO
       rintro _ w4 ⟨rfl,rfl⟩
       clear y2 ly
       go_wp2_with fail
       go_roundw
       case rel=>exact ⟨k+1,by omega,by go_num,aB HB.out HB3.out,HG2.out⟩
       case measure=>simp [intOf];omega
      ·rw [bF hbe]
       have HF:=Hd (HNO.out fun h=>hbe h.2)
       clear hbe HG HNO
       rintro _ w4 ⟨rfl,rfl⟩
       clear y2 ly
       go_wp2_with fail
       go_ret
       exact ⟨aP HF.out,aB (aB (aB HB0.out B1.out) HB.out) HB3.out⟩
     ·rw [bF hok]
      have HF:=Hd (HNO.out fun h=>hok h.1)
      clear hok HG HNO
      rintro _ w3 ⟨rfl,b3⟩
      have HB3:=Hd (aB (aF (Below.refl wr.heap.size wr) (.cells #[.int .i64 s.kind,.int .i64 s.init,.slice S m p] 91)) b3)
      clear b3 c0 c1 c2
      go_wp2_with fail
      go_ret
      exact ⟨aP HF.out,aB (aB (aB HB0.out B1.out) HB.out) HB3.out⟩
    ·have hdk:decide ((k:Int)<(sn:Int))=false:=by simp;omega
     have hkn:k=sn:=by omega
     have HSQ:Hid (∀j,j<sn→ik (l.seqs[j]?.getD Sq.zero).kind (l.seqs[j]?.getD Sq.zero).init (l.seqs[j]?.getD Sq.zero).ins.length/\ig (l.seqs[j]?.getD Sq.zero).ins (1+l.inputs+(sn:Int)+(ln:Int))):=fun j hj=>HALL.out j (by omega)
     have HX2:=Hd (aD HB.out HX1.out)
     clear x1 x2 x3 lx HALL hkn
     have x2:=aA (k:=2) HX2.out rfl
     have lx:=aC HX2.out
     obtain ⟨wo,rfl⟩:∃y,y=wr:=⟨wr,rfl⟩
     go_wp2_with fail
     go_loopw [40] (fun i wr=>∃k:Nat,k<=ln/\i = .int .i64 (k:Int)/\Below wo.heap.size wo wr/\∀j,j<k→gD (l.luts[j]?.getD Lt.zero).ins.length (l.luts[j]?.getD Lt.zero).mask/\ig (l.luts[j]?.getD Lt.zero).ins (1+l.inputs+(sn:Int)+(j:Int))) (fun i _=>ln - (intOf i).toNat)
     case atStart=>exact ⟨0,by omega,rfl,Below.refl _ _,fun j hj=>by omega⟩
     case round =>
      obtain ⟨k,hk,rfl,hb,hall⟩:=hrel
      have HB':=Hd hb
      have HALL:=Hd hall
      clear hb hall x2 lx
      by_cases hlt2:k<ln
      ·have hdk2:decide ((k:Int)<(ln:Int))=true:=by simp;omega
       have HNR:=Hd (HN.out.below (aB (aB (aB HB0.out B1.out) HB.out) HB'.out))
       have HX3:=Hd (aD HB'.out HX2.out)
       obtain ⟨b,o,S,m,p,rfl,hbl,c0,c1,r2⟩:=HNR.out.lt.lut' (k:=k) (by rw [HLL.out];exact hlt2)
       have hm:(l.luts[k]?.getD Lt.zero).ins.length=m:=r2.ints.1
       have HR2:=Hd r2
       have HG:Hid (gD m (l.luts[k]?.getD Lt.zero).mask/\ig (l.luts[k]?.getD Lt.zero).ins (1+l.inputs+(sn:Int)+(k:Int))→∀j,j<k+1→gD (l.luts[j]?.getD Lt.zero).ins.length (l.luts[j]?.getD Lt.zero).mask/\ig (l.luts[j]?.getD Lt.zero).ins (1+l.inputs+(sn:Int)+(j:Int))):=fun h=>bS HALL.out (by rw [hm];exact h)
       have HNO:Hid (¬(gD m (l.luts[k]?.getD Lt.zero).mask/\ig (l.luts[k]?.getD Lt.zero).ins (1+l.inputs+(sn:Int)+(k:Int)))→¬bB l):=fun h hf=>h (by
        have h1:=hf.luts k (by rw [HLL.out];exact hlt2)
        rw [hm] at h1
        exact ⟨⟨h1.1,h1.2.1⟩,by rw [←HFI.out];exact h1.2.2⟩)
       generalize l.luts[k]?.getD Lt.zero=s at *
       have i0:(0:Int)<=(k:Int):=by omega
       have i1:(k:Int)<(ln:Int):=by omega
       clear r2 hm
       have HW9:=Hd (aF (Below.refl wr.heap.size wr) (.cells #[.slice S m p,.int .i64 s.mask] 96))
       have y0:=aA (k:=0) (aK wr (.cells #[.slice S m p,.int .i64 s.mask] 96)) rfl
       have y1:=aA (k:=1) (aK wr (.cells #[.slice S m p,.int .i64 s.mask] 96)) rfl
       have ly:=aC (aK wr (.cells #[.slice S m p,.int .i64 s.mask] 96))
       have hx9:=aD HW9.out HX3.out
       have x0:=aA (k:=0) hx9 rfl
       have x1:=aA (k:=1) hx9 rfl
       have x2:=aA (k:=2) hx9 rfl
       have x3:=aA (k:=3) hx9 rfl
       have lx:=aC hx9
       have hgz:wr.heap.size≠w.heap.size:=by have:=aC HX3.out;omega
       go_upto_region 13 with fail
       generalize wr.alloc (.cells #[.slice S m p,.int .i64 s.mask] 96)=W9 at *
       have HFL:=Hd (fun (x:Sub W9)=>jR l.inputs SA (some ⟨b,o,none⟩) OA sn sc ln lc on oc x.v HIN.out.1 (by have:=HIN.out;omega) (by omega))
       have hin0:=HIN.out.1
       have hin1:=HIN.out.2
       clear c0 c1 hx9
       by_cases hm4:m<=4
       ·have hd4:decide ((4:Int)<(m:Int))=false:=decide_eq_false (by omega)
        have hNB:=fun (x:Sub W9)=>kS S m p s.ins (1+l.inputs+(sn:Int)+(k:Int)) x.v (HR2.out.below (aB HW9.out x.h)).ints (by omega) (by omega)
        have hTB:=fun (x:Sub W9)=>uB m s.mask x.v hm4
        by_cases hbe:ig s.ins (1+l.inputs+(sn:Int)+(k:Int))
        ·rw [aa hbe] at hNB
         by_cases htb:gD m s.mask
         ·rw [aa htb] at hTB
          have HNB:=Hd hNB
          have HTB:=Hd hTB
          have HG2:=Hd (HG.out ⟨htb,hbe⟩)
          clear hNB hTB hbe htb HG HNO
          have hsub:=aZ W9
          have hsc:=aR W9
          refine aI W9 (by kernel_rfl) (by kernel_rfl) (Below.refl _ _) ?_
          repeat (go_big_quiet_step ((first
           | (go_at_call 177;with_reducible exact aO (HFL.out _))
           | (go_at_call 175;with_reducible exact aU (HNB.out _))
           | (go_at_call 178;with_reducible exact aO (HTB.out _)))))
          refine wpQuiet_nil ?_
          rintro _ ⟨⟨w5,hD⟩,rfl⟩
          clear hsub hsc
          have HD:=Hd (aB HW9.out hD)
          clear hD x0 x1 x2 x3 lx y0 y1 ly
          go_wp2_with fail
          go_roundw
          case rel=>exact ⟨k+1,by omega,by go_num,aB HB'.out HD.out,HG2.out⟩
          case measure=>simp [intOf];omega
         ·rw [bF htb] at hTB
          have HNB:=Hd hNB
          have HTB:=Hd hTB
          have HF:=Hd (HNO.out fun h=>htb h.1)
          clear hNB hTB hbe htb HG HNO
          have hsub:=aZ W9
          have hsc:=aR W9
          refine aI W9 (by kernel_rfl) (by kernel_rfl) (Below.refl _ _) ?_
          repeat (go_big_quiet_step ((first
           | (go_at_call 177;with_reducible exact aO (HFL.out _))
           | (go_at_call 175;with_reducible exact aU (HNB.out _))
           | (go_at_call 178;with_reducible exact aO (HTB.out _)))))
          refine wpQuiet_nil ?_
          rintro _ ⟨⟨w5,hD⟩,rfl⟩
          clear hsub hsc
          have HD:=Hd (aB HW9.out hD)
          clear hD x0 x1 x2 x3 lx y0 y1 ly
          go_wp2_with fail
          go_ret
          exact ⟨aP HF.out,aB (aB (aB (aB HB0.out B1.out) HB.out) HB'.out) HD.out⟩
        ·rw [bF hbe] at hNB
         have HNB:=Hd hNB
         have HF:=Hd (HNO.out fun h=>hbe h.2)
         clear hNB hTB hbe HG HNO
         have hsub:=aZ W9
         have hsc:=aR W9
         refine aI W9 (by kernel_rfl) (by kernel_rfl) (Below.refl _ _) ?_
         repeat (go_big_quiet_step ((first
          | (go_at_call 177;with_reducible exact aO (HFL.out _))
          | (go_at_call 175;with_reducible exact aU (HNB.out _)))))
         refine wpQuiet_nil ?_
         rintro _ ⟨⟨w5,hD⟩,rfl⟩
         clear hsub hsc
         have HD:=Hd (aB HW9.out hD)
         clear hD x0 x1 x2 x3 lx y0 y1 ly
         go_wp2_with fail
         go_ret
         exact ⟨aP HF.out,aB (aB (aB (aB HB0.out B1.out) HB.out) HB'.out) HD.out⟩
       ·have hd4:decide ((4:Int)<(m:Int))=true:=decide_eq_true (by omega)
        have HF:=Hd (HNO.out fun h=>hm4 h.1.1)
        clear HG HNO hm4
        have hsub:=aZ W9
        have hsc:=aR W9
        refine aI W9 (by kernel_rfl) (by kernel_rfl) (Below.refl _ _) ?_
        repeat (go_big_quiet_step ((first
         | (go_at_call 177;with_reducible exact aO (HFL.out _)))))
        refine wpQuiet_nil ?_
        rintro _ ⟨⟨w5,hD⟩,rfl⟩
        clear hsub hsc
        have HD:=Hd (aB HW9.out hD)
        clear hD x0 x1 x2 x3 lx y0 y1 ly
        go_wp2_with fail
        go_ret
        exact ⟨aP HF.out,aB (aB (aB (aB HB0.out B1.out) HB.out) HB'.out) HD.out⟩
      ·have hdk2:decide ((k:Int)<(ln:Int))=false:=by simp;omega
       have hkn:k=ln:=by omega
       have HLU:Hid (∀j,j<ln→gD (l.luts[j]?.getD Lt.zero).ins.length (l.luts[j]?.getD Lt.zero).mask/\ig (l.luts[j]?.getD Lt.zero).ins (1+l.inputs+(sn:Int)+(j:Int))):=fun j hj=>HALL.out j (by omega)
       have HF2:=Hd (aB (aB (aB HB0.out B1.out) HB.out) HB'.out)
       have HFIT:Hid (bB l):=⟨HIN.out,by have:=HSL.out;omega,by have:=HLL.out;omega,by have:=HOL.out;omega,by have:=HOU.out;rw [←HC.out] at this;exact this,fun i hi=>by have:=HSQ.out i (by rw [←HSL.out];exact hi);rw [←HC.out] at this;exact this,fun i hi=>by have:=HLU.out i (by rw [←HLL.out];exact hi);rw [←HFI.out] at this;exact ⟨this.1.1,this.1.2,this.2⟩⟩
       clear HALL hkn
       go_wp2_with fail
       go_ret
       exact ⟨cO HFIT.out,HF2.out⟩
  ·rw [bF hou]
   have HF:Hid (¬bB l):=fun hf=>hou (by rw [←HC.out];exact hf.outs)
   clear hou
   rintro _ w2 ⟨rfl,rfl⟩
   go_wp2_with fail
   go_ret
   exact ⟨aP HF.out,aB HB0.out B1.out⟩
 ·have HF:Hid (¬bB l):=fun hf=>hz ⟨hf.inp,by have:=hf.nseq;have:=HSL.out;omega,by have:=hf.nlut;have:=HLL.out;omega,by have:=hf.nout;have:=HOL.out;omega⟩
  go_enter Tryz.func91,Tryz.ntmps91
  go_wp2_with fail
  refine (rX l SA LA OA sn sc ln lc on oc _ hz).mono ?_
  rintro _ w1 ⟨rfl,b1⟩
  have B1:=Hd b1
  clear b1 hz
  go_wp2_with fail
  go_ret
  exact ⟨aP HF.out,aB HB0.out B1.out⟩
theorem kT (A:Option Addr) (n c:Nat) (xs:List Int) (x:Int) (w:World) (h:dA w A n xs) (hn:n<=1048576) :
  Calls Tryz.prog 129 #[.slice A n c,.int .i64 x] w fun e w'=>e = .returned (.bool (decide (x∈xs)))/\w=w':=by
 have HI:=Hd h
 clear h
 go_enter Tryz.func129,Tryz.ntmps129
 go_wp2_with fail
 go_loopw [9] (fun i wr=>∃k:Nat,k<=n/\i = .int .i64 (k:Int)/\w=wr/\∀j,j<k→xs[j]?.getD 0≠x) (fun i _=>n - (intOf i).toNat)
 case atStart=>exact ⟨0,by omega,rfl,rfl,fun j hj=>by omega⟩
 case round =>
  obtain ⟨k,hk,rfl,rfl,hall⟩:=hrel
  have HALL:=Hd hall
  clear hall
  by_cases hlt:k<n
  ·have hdk:decide ((k:Int)<(n:Int))=true:=by simp;omega
   obtain ⟨b,o,rfl,hb,hc⟩:=HI.out.2 (by omega)
   have hck:=hc k hlt
   have hkl:k<xs.length:=by rw [HI.out.1];exact hlt
   have HM:=Hd (List.getElem_mem hkl)
   have HG:Hid (xs[k]?.getD 0≠x→∀j,j<k+1→xs[j]?.getD 0≠x):=fun h=>bS HALL.out h
   rw [List.getElem?_eq_getElem hkl,Option.getD_some] at hck HG
   generalize xs[k]=y at *
   have i0:(0:Int)<=(k:Int):=by omega
   have i1:(k:Int)<(n:Int):=by omega
   clear hc
   by_cases hyx:y=x
   ·subst hyx
    go_wp2_with fail
    go_ret
    exact ⟨bT (decide_eq_true HM.out).symm,rfl⟩
   ·have HG2:=Hd (HG.out hyx)
    have hd:(y==x)=false:=by simp;omega
    clear hyx HG
    go_wp2_with fail
    go_roundw
    case rel=>exact ⟨k+1,by omega,by go_num,by first|rfl|trivial,HG2.out⟩
    case measure=>simp [intOf];omega
  ·have hkn:k=n:=by omega
   subst hkn
   have hdk:decide ((k:Int)<(k:Int))=false:=by simp
   go_wp2_with fail
   go_ret
   refine ⟨bT (decide_eq_false fun hx=>?_).symm,rfl⟩
   obtain ⟨j,hj,rfl⟩:=List.getElem_of_mem hx
   exact HALL.out j (by rw [←HI.out.1];exact hj) (by rw [List.getElem?_eq_getElem hj];rfl)
theorem kU (A:Option Addr) (n c:Nat) (xs:List Int) (x:Int) (w:World) (h:dA w A n xs) (hn:n<=1048576) :
  Calls Tryz.prog 208 #[.slice A n c,.int .i64 x] w fun e w'=>e = .returned (.bool (decide (x∈xs)))/\w=w':=by
 have HI:=Hd h
 clear h
 go_enter Tryz.func208,Tryz.ntmps208
 go_wp2_with fail
 go_loopw [5] (fun i wr=>∃k:Nat,k<=n/\i = .int .i64 (k:Int)/\w=wr/\∀j,j<k→xs[j]?.getD 0≠x) (fun i _=>n - (intOf i).toNat)
 case atStart=>exact ⟨0,by omega,rfl,rfl,fun j hj=>by omega⟩
 case round =>
  obtain ⟨k,hk,rfl,rfl,hall⟩:=hrel
  have HALL:=Hd hall
  clear hall
  by_cases hlt:k<n
  ·have hdk:decide ((k:Int)<(n:Int))=true:=by simp;omega
   obtain ⟨b,o,rfl,hb,hc⟩:=HI.out.2 (by omega)
   have hck:=hc k hlt
   have hkl:k<xs.length:=by rw [HI.out.1];exact hlt
   have HM:=Hd (List.getElem_mem hkl)
   have HG:Hid (xs[k]?.getD 0≠x→∀j,j<k+1→xs[j]?.getD 0≠x):=fun h=>bS HALL.out h
   rw [List.getElem?_eq_getElem hkl,Option.getD_some] at hck HG
   generalize xs[k]=y at *
   have i0:(0:Int)<=(k:Int):=by omega
   have i1:(k:Int)<(n:Int):=by omega
   clear hc
   by_cases hyx:y=x
   ·subst hyx
    go_wp2_with fail
    go_ret
    exact ⟨bT (decide_eq_true HM.out).symm,rfl⟩
   ·have HG2:=Hd (HG.out hyx)
    have hd:(y==x)=false:=by simp;omega
    clear hyx HG
    go_wp2_with fail
    go_roundw
    case rel=>exact ⟨k+1,by omega,by go_num,by first|rfl|trivial,HG2.out⟩
    case measure=>simp [intOf];omega
  ·have hkn:k=n:=by omega
   subst hkn
   have hdk:decide ((k:Int)<(k:Int))=false:=by simp
   go_wp2_with fail
   go_ret
   refine ⟨bT (decide_eq_false fun hx=>?_).symm,rfl⟩
   obtain ⟨j,hj,rfl⟩:=List.getElem_of_mem hx
   exact HALL.out j (by rw [←HI.out.1];exact hj) (by rw [List.getElem?_eq_getElem hj];rfl)
theorem kD (A:Option Addr) (n c:Nat) (xs:List Int) (w:World) (h:dA w A n xs) (hn:n<=1048576) :
  Calls Tryz.prog 124 #[.slice A n c] w fun e w'=>e = .returned (.bool (tb (∀k:Nat,k<n→xs[k]?.getD 0=1)))/\w=w':=by
 have HI:=Hd h
 clear h
 go_enter Tryz.func124,Tryz.ntmps124
 go_wp2_with fail
 go_loopw [7] (fun i wr=>∃k:Nat,k<=n/\i = .int .i64 (k:Int)/\w=wr/\∀j,j<k→xs[j]?.getD 0=1) (fun i _=>n - (intOf i).toNat)
 case atStart=>exact ⟨0,by omega,rfl,rfl,fun j hj=>by omega⟩
 case round =>
  obtain ⟨k,hk,rfl,rfl,hall⟩:=hrel
  have HALL:=Hd hall
  clear hall
  by_cases hlt:k<n
  ·have hdk:decide ((k:Int)<(n:Int))=true:=by simp;omega
   obtain ⟨b,o,rfl,hb,hc⟩:=HI.out.2 (by omega)
   have hck:=hc k hlt
   have HG:Hid (xs[k]?.getD 0=1→∀j,j<k+1→xs[j]?.getD 0=1):=fun h=>bS HALL.out h
   have HNO:Hid (xs[k]?.getD 0≠1→¬∀j:Nat,j<n→xs[j]?.getD 0=1):=fun h h'=>h (h' k hlt)
   generalize xs[k]?.getD 0=y at *
   have i0:(0:Int)<=(k:Int):=by omega
   have i1:(k:Int)<(n:Int):=by omega
   clear hc
   by_cases hyx:y=1
   ·have HG2:=Hd (HG.out hyx)
    subst hyx
    clear HG HNO
    go_wp2_with fail
    go_roundw
    case rel=>exact ⟨k+1,by omega,by go_num,by first|rfl|trivial,HG2.out⟩
    case measure=>simp [intOf];omega
   ·have HF:=Hd (HNO.out hyx)
    have hd:(y==1)=false:=by simp;omega
    clear hyx HG HNO
    go_wp2_with fail
    go_ret
    exact ⟨aP HF.out,rfl⟩
  ·have hkn:k=n:=by omega
   subst hkn
   have hdk:decide ((k:Int)<(k:Int))=false:=by simp
   go_wp2_with fail
   go_ret
   exact ⟨cO HALL.out,rfl⟩
theorem nE {l:ai} (hn:bB l) {e:LeT} (h:dM l e):(mY l e).length<=4/\∀x∈mY l e,0<=x/\x<(l.count:Int):=by
 unfold mY
 split
 ·rename_i h0
  have h1:=h.lut.2
  have h2:=hn.luts e.lut.toNat (by omega)
  unfold ai.lut
  refine ⟨h2.1,fun x hx=>?_⟩
  have h3:=h2.2.2 x hx
  unfold ai.count
  omega
 ·rename_i h0
  have h1:=h.ff
  have h4:=h.lut.1
  have h5:=h.one
  have h2:=hn.seqs e.ff.toNat (by omega)
  unfold ai.sq
  exact ⟨by rcases h2.1 with h|h <;> omega,h2.2⟩
theorem lW {l:ai} (hn:bB l) {e:LeT} (h:dM l e):(fq l e).length<=4/\∀x∈fq l e,0<x/\x<(l.count:Int):=by
 obtain ⟨h1,h2⟩:=nE hn h
 refine ⟨?_,fun x hx=>?_⟩
 ·unfold fq
  have:=jB ((mY l e).filter fun x=>decide (x≠0))
  have:=List.length_filter_le (fun x=>decide (x≠0)) (mY l e)
  omega
 ·obtain ⟨h3,h4⟩:=xM.1 hx
  have:=h2 x h3
  omega
theorem uC {l:ai} (hn:bB l) {b:Blk} (h:cZ l b):(gV l b).length<=5:=by
 obtain ⟨hk,hb⟩:=h
 unfold gV
 split
 ·simp
 ·split
  ·simp
  ·split
   ·rename_i h2
    rcases hk with h|h|h|h
    ·omega
    ·omega
    ·have h3:=hn.seqs b.item.toNat (by omega)
     unfold ai.sq
     rcases h3.1 with h|h <;> omega
    ·omega
   ·rcases hb with h|h
    ·exact h.2.2.2
    ·exfalso
     rcases hk with h'|h'|h'|h' <;> omega
theorem qA {l:ai} {b:Blk} (h:cZ l b):(iw l b).length<=2:=by
 obtain ⟨_,hb⟩:=h
 unfold iw zH
 split
 ·simp
 ·split
  ·simp
  ·split
   ·simp
   ·rw [List.length_map]
    rcases hb with h|h
    ·exact h.2.2.1.2
    ·rw [h.2.1];simp
theorem rY (pss:List (List Int)) (i:Nat) (os:List Int) (p:Nat):(fu pss i os p).length<=p:=by
 induction p with
 | zero=>simp [fu]
 | succ p ih=>rw [nW,List.length_append];unfold qG;split <;> simp <;> omega
theorem nJ {l:ai} {bs:List Blk} (h:∀b∈bs,cZ l b) {i:Nat} (hi:i<=bs.length):(jW l bs i).length<=2 * i:=by
 induction i with
 | zero=>simp [jW]
 | succ i ih =>
  have h1:=ih (by omega)
  have h2:=rY (bs.map (gV l)) i (iw l (bs[i]?.getD Blk.zero)) (iw l (bs[i]?.getD Blk.zero)).length
  have h3:(iw l (bs[i]?.getD Blk.zero)).length<=2:=by
   rw [List.getElem?_eq_getElem (show i<bs.length by omega),Option.getD_some]
   exact qA (h _ (List.getElem_mem _))
  rw [mi,List.length_append]
  omega
/-! ### counting -/
theorem jr {m:Nat} {xs:List Int}:(∀k:Nat,k<m→(aG m xs)[k]?.getD 0=1)↔oC m xs:=by
 unfold oC
 constructor
 ·intro h k hk
  have:=h k hk
  rw [iL xs hk] at this
  omega
 ·intro h k hk
  rw [iL xs hk,h k hk]
  rfl
theorem dC (k:Int) (bs:List Blk) (b:Blk):ak k (bs++[b])=ak k bs++if b.kind=k then [b.item] else []:=by simp [ak]
def ag (es:List LeT):List Int:=es.flatMap fun e=>if 0<=e.lut then [e.lut] else []
def bN (es:List LeT):List Int:=es.flatMap fun e=>if 0<=e.ff then [e.ff] else []
theorem iG (es:List LeT) (e:LeT):ag (es++[e])=ag es++if 0<=e.lut then [e.lut] else []:=by simp [ag]
theorem jJ (es:List LeT) (e:LeT):bN (es++[e])=bN es++if 0<=e.ff then [e.ff] else []:=by simp [bN]
theorem iH (bs:List Blk) (b:Blk):dX (bs++[b])=dX bs++ag b.les:=by simp [dX,ag]
theorem iI (bs:List Blk) (b:Blk):dH (bs++[b])=(dH bs++if b.kind=2 then [b.item] else [])++bN b.les:=by simp [dH,bN]
/-! ### placements -/
theorem jo {α β:Type} {f:α→List β} {m:Nat}:∀{xs:List α},(∀x∈xs,(f x).length<=m)→(xs.flatMap f).length<=xs.length * m
 | [],_=>by simp
 | x :: xs,h=>by
  rw [List.flatMap_cons,List.length_append,List.length_cons,Nat.succ_mul]
  have h1:=h x (by simp)
  have h2:=jo (xs:=xs) fun y hy=>h y (by simp [hy])
  omega
theorem gu {l:ai} (hn:bB l) (k:Nat):((l.luts.take k).flatMap Lt.ins).length<=1600:=by
 have h:=jo (f:=Lt.ins) (m:=4) (xs:=l.luts.take k) fun x hx=>by
  obtain ⟨i,hi,rfl⟩:=List.getElem_of_mem (List.mem_of_mem_take hx)
  have:=(hn.luts i hi).1
  rwa [List.getElem?_eq_getElem hi] at this
 have h2:(l.luts.take k).length<=l.luts.length:=by rw [List.length_take];omega
 have:=hn.nlut
 have:=Nat.mul_le_mul_right 4 h2
 omega
theorem kI {l:ai} (hn:bB l) (k:Nat):((l.seqs.take k).flatMap Sq.ins).length<=48:=by
 have h:=jo (f:=Sq.ins) (m:=4) (xs:=l.seqs.take k) fun x hx=>by
  obtain ⟨i,hi,rfl⟩:=List.getElem_of_mem (List.mem_of_mem_take hx)
  have:=(hn.seqs i hi).1
  rw [List.getElem?_eq_getElem hi] at this
  rcases this with h|h <;> simp only [Option.getD_some] at h <;> omega
 have h2:(l.seqs.take k).length<=l.seqs.length:=by rw [List.length_take];omega
 have:=hn.nseq
 have:=Nat.mul_le_mul_right 4 h2
 omega
def jS (l:ai):List Int:=l.luts.flatMap Lt.ins++l.seqs.flatMap Sq.ins++l.outs
theorem uD (l:ai) (n:Int):vQ l n=cnt (jS l) n:=zA l n
def jc (bs xs:List Int) (j:Nat):List Int:=bs++xs.take j
theorem kJ (bs xs:List Int):jc bs xs 0=bs:=by simp [jc]
theorem kK {bs xs:List Int} {n:Nat} (h:xs.length=n):jc bs xs n=bs++xs:=by rw [jc,List.take_of_length_le (by omega)]
theorem kL {bs xs:List Int} {j:Nat} (h:j<xs.length):jc bs xs j++[xs[j]?.getD 0]=jc bs xs (j+1):=by
 rw [jc,jc,bJ (z:=0) h,List.append_assoc]
theorem lZ (bs xs:List Int) (j:Nat):(jc bs xs j).length<=bs.length+xs.length:=by
 rw [jc,List.length_append,List.length_take];omega
theorem rE {l:ai} {k:Nat} (h:k<l.luts.length):(l.luts.take k).flatMap Lt.ins++(l.luts[k]?.getD Lt.zero).ins=(l.luts.take (k+1)).flatMap Lt.ins:=by
 rw [bJ (z:=Lt.zero) h];simp
theorem qB {l:ai} {k:Nat} (h:k<l.seqs.length):(l.seqs.take k).flatMap Sq.ins++(l.seqs[k]?.getD Sq.zero).ins=(l.seqs.take (k+1)).flatMap Sq.ins:=by
 rw [bJ (z:=Sq.zero) h];simp
theorem lg {w1 wr:World} {C g:Nat} {xs:List Int} {X:Nat} (hs:aM w1 wr [.cel (aJ (aG C xs)) (.slice (some ⟨g,0,none⟩) C C)]) (hX:X<C) :
  wr.cell? ⟨g,X,none⟩=some (.int .i64 ((cnt xs (X:Int):Nat):Int))/\wr.frozen? ⟨g,X,none⟩=false/\g<wr.heap.size/\aM w1 (wr.setCell ⟨g,X,none⟩ (.int .i64 (((cnt xs (X:Int):Nat):Int)+1))) [.cel (aJ (aG C (xs++[(X:Int)]))) (.slice (some ⟨g,0,none⟩) C C)]:=by
 obtain ⟨g',hg,_,h2,h3,h4,h5⟩:=hs.setI 0 rfl hX
 injection hg with hg
 injection hg with hg
 subst hg
 rw [iL xs hX] at h3
 refine ⟨h3,h4,h2,?_⟩
 have h6:=h5 (((cnt xs (X:Int):Nat):Int)+1)
 have h7:=pE (m:=C) xs (x:=(X:Int)) (by omega)
 rw [Int.toNat_natCast] at h7
 rw [h7] at h6
 exact h6
end Go.Proofs.YtofihjoanjkdmaaGreat
