/- Marking the parts of a layout that the call owns (printed by mkmk.py). -/
import Derived.Test.YtofihjoanjkdmaaGreatCfgP
import Derived.Test.YtofihjoanjkdmaaGreatLayBd
import Derived.Test.YtofihjoanjkdmaaGreatLayDM
import Derived.Test.YtofihjoanjkdmaaGreatLayTo
import Derived.Test.YtofihjoanjkdmaaGreatMkx
import Derived.Test.YtofihjoanjkdmaaGreatTileHar
namespace Go.Proofs.YtofihjoanjkdmaaGreat
set_option maxHeartbeats 2000000
set_option maxRecDepth 100000
open Go.RowKit
theorem ji {w:World} {e s n c:Nat} {A:Option Addr} {cs:List Cel} {F:List Nat} (h:bO w (.row e s cs) (.slice A n c) F):n<=9223372036854775807:=by
 rw [dV] at h
 obtain ⟨z,u,B,vs,F',j,ho,_,_⟩:=h
 injection j with _ hn _
 subst hn
 rcases ho.2 with ⟨h1,h2⟩|⟨g,q,cur,h1,_,_,h3,h4,_⟩
 ·injection h1 with _ h1 _;omega
 injection h1 with _ h1 _;unfold maxLen at h4;omega
theorem lU (A:Option Addr) (n c:Nat) (xs:List Int) (F:List Nat) (k0:Int) (w:World) (h:bO w (aH xs) (.slice A n c) F) (q:F.Nodup) (j:0<=k0) (g:k0+(ak (aH xs):Int)<=1099511627776) :
  Calls Tryz.prog 63 #[.slice A n c,.int .i64 k0] w fun e w'=>e = .returned (.int .i64 (k0+(ak (aH xs):Int)))/\bO w' (mkC k0 (aH xs)) (.slice A n c) F/\gp F w w':=by
 obtain ⟨ho,rfl⟩:=eB.1 h
 have hl:xs.length=n:=ho.len
 have hc:ak (aH xs)=n:=by rw [aH,ak,yV,hl]
 rw [hc] at g ⊢
 refine (qG 0 A n c xs k0 w ho j (by omega) (by omega)).mono ?_
 rintro e w' ⟨rfl,h1,h2⟩
 refine ⟨rfl,?_,ry h2⟩
 rw [aH,mkC,Ef,hl]
 exact eB.2 ⟨h1,rfl⟩
theorem zX (A:Option Addr) (n c:Nat) (xs:List LeT) (F:List Nat) (k0:Int) (w:World) (h:bO w (cZ xs) (.slice A n c) F) (hF:F.Nodup) (ax:0<=k0) (q:k0+(ak (cZ xs):Int)<=1099511627776) :
  Calls Tryz.prog 143 #[.slice A n c,.int .i64 k0] w fun e w'=>e = .returned (.int .i64 (k0+(ak (cZ xs):Int)))/\bO w' (mkC k0 (cZ xs)) (.slice A n c) F/\gp F w w':=by
 have hl:xs.length=n:=by have h1:=gW h;unfold cZ at h1;rw [eZ (s:=2) (fun _=>rfl)] at h1;omega
 have hn:=ji h
 obtain ⟨Y,V,j⟩:=hd3 hl h hF
 have G:Hid (ak (cZ xs)=dE (xs.flatMap LeT.cells)):=by show _=_;rw [cZ,ak]
 rw [G.out] at q
 have B:=Hd q
 clear h hF hl
 by_cases ad:n=0
 ·subst ad
  have hx:xs=[]:=List.eq_nil_of_length_eq_zero Y.out
  subst hx
  go_enter Tryz.func143,Tryz.ntmps143
  go_wp2_with fail
  go_loopw [1,5] (fun v i wr=>v = .int .i64 k0/\i = .int .i64 0/\w=wr) (fun _ _ _=>0)
  ·exact ⟨rfl,rfl,rfl⟩
  obtain ⟨rfl,rfl,rfl⟩:=hrel
  go_wp2_with fail
  go_ret
  exact ⟨aL (by rw [G.out];simp [dE]),V.out,gp.refl _ _⟩
 obtain ⟨g,rfl,U⟩:=lg (k0:=k0) V.out (by rw [gW V.out];omega)
 have al:=Hd U
 clear U V
 go_enter Tryz.func143,Tryz.ntmps143
 go_wp2_with fail
 go_loopw [1,5] (fun v i wr=>∃k:Nat,k<=n/\i = .int .i64 (k:Int)/\v = .int .i64 (k0+(dE ((xs.flatMap LeT.cells).take (k * 2)):Int))/\Mkd F 94 2 n c g k0 (xs.flatMap LeT.cells) w wr (k * 2)) (fun _ i _=>n - (intOf i).toNat)
 ·exact ⟨0,by omega,rfl,by simp [dE],by rw [Nat.zero_mul];exact al.out⟩
 obtain ⟨k,hk,rfl,rfl,hm⟩:=hrel
 have W:=Hd hm
 clear hm
 by_cases am:k<n
 ·have u:k<xs.length:=by rw [Y.out];exact am
  have D:Hid ((xs.flatMap LeT.cells)[k * 2]?=some (.int ((xs[k]?.getD LeT.zero).lut))):=dS (cells:=LeT.cells) (s:=2) (z:=LeT.zero) (r:=0) (fun _=>rfl) u (by omega)
  have ag:=eQ D.out
  have H:Hid ((xs.flatMap LeT.cells)[k * 2+1]?=some (.int ((xs[k]?.getD LeT.zero).ff))):=dS (cells:=LeT.cells) (s:=2) (z:=LeT.zero) (r:=1) (fun _=>rfl) u (by omega)
  have aj:=eQ H.out
  have ay:=jH (xs.flatMap LeT.cells) (k * 2+2)
  try simp only [ak] at ag
  try simp only [ak] at aj
  have K:(k+1) * 2=k * 2+2:=by omega
  generalize J:dE ((xs.flatMap LeT.cells).take (k * 2))=K0 at *
  generalize Q:dE ((xs.flatMap LeT.cells).take (k * 2+1))=K1 at *
  generalize I:dE ((xs.flatMap LeT.cells).take (k * 2+2))=K2 at *
  have q:=B.out
  obtain ⟨ai,B,af⟩:=hd3 J Q I
  obtain ⟨i0,i1⟩:=ib (by omega:k<n)
  have R:=Hd K
  clear u K J Q I
  obtain ⟨c0,f0,aw⟩:=W.out.get j.out (by omega) D.out
  have Z:=Hd (W.out.put j.out D.out (y:=k0+(K0:Int)) (by rw [ai.out]))
  obtain ⟨c1,f1,av⟩:=W.out.get j.out (by omega) H.out
  have ae:=Hd (Z.out.put j.out H.out (y:=k0+(K0:Int)+1) (by rw [B.out];omega))
  go_wp2_with fail
  go_roundw
  ·exact ⟨k+1,by omega,by go_num,by rw [R.out,af.out];congr 1;omega,by rw [R.out];exact ae.out⟩
  simp [intOf];omega
 have ah:k=n:=by omega
 subst ah
 have hd:=W.out.done (by rw [eZ (s:=2) (fun _=>rfl),Y.out];exact Nat.le_refl _)
 have HD:=Hd hd
 have HV:Hid (dE ((xs.flatMap LeT.cells).take (k * 2))=ak (cZ xs)):=by show _=_;rw [G.out,List.take_of_length_le (by rw [eZ (s:=2) (fun _=>rfl),Y.out];exact Nat.le_refl _)]
 rw [HV.out]
 clear hd
 go_wp2_with fail
 go_ret
 exact ⟨rfl,HD.out.1,HD.out.2⟩
theorem vG (A:Option Addr) (n c:Nat) (xs:List Blk) (F:List Nat) (k0:Int) (w:World) (h:bO w (aa xs) (.slice A n c) F) (hF:F.Nodup) (aX:0<=k0) (B:k0+(ak (aa xs):Int)<=1099511627776) :
  Calls Tryz.prog 61 #[.slice A n c,.int .i64 k0] w fun e w'=>e = .returned (.int .i64 (k0+(ak (aa xs):Int)))/\bO w' (mkC k0 (aa xs)) (.slice A n c) F/\gp F w w':=by
 have hl:xs.length=n:=by have h1:=gW h;unfold aa at h1;rw [eZ (s:=3) (fun _=>rfl)] at h1;omega
 have hn:=ji h
 obtain ⟨HL,HO,j⟩:=hd3 hl h hF
 have I:Hid (ak (aa xs)=dE (xs.flatMap Blk.cells)):=by show _=_;rw [aa,ak]
 rw [I.out] at B
 have H:=Hd B
 clear h hF hl
 by_cases az:n=0
 ·subst az
  have hx:xs=[]:=List.eq_nil_of_length_eq_zero HL.out
  subst hx
  go_enter Tryz.func61,Tryz.ntmps61
  go_wp2_with fail
  go_loopw [1,5] (fun v i wr=>v = .int .i64 k0/\i = .int .i64 0/\w=wr) (fun _ _ _=>0)
  ·exact ⟨rfl,rfl,rfl⟩
  obtain ⟨rfl,rfl,rfl⟩:=hrel
  go_wp2_with fail
  go_ret
  exact ⟨aL (by rw [I.out];simp [dE]),HO.out,gp.refl _ _⟩
 obtain ⟨g,rfl,ag⟩:=lg (k0:=k0) HO.out (by rw [gW HO.out];omega)
 have aF:=Hd ag
 clear ag HO
 go_enter Tryz.func61,Tryz.ntmps61
 go_wp2_with fail
 go_loopw [1,5] (fun v i wr=>∃k:Nat,k<=n/\i = .int .i64 (k:Int)/\v = .int .i64 (k0+(dE ((xs.flatMap Blk.cells).take (k * 3)):Int))/\Mkd F 89 3 n c g k0 (xs.flatMap Blk.cells) w wr (k * 3)) (fun _ i _=>n - (intOf i).toNat)
 ·exact ⟨0,by omega,rfl,by simp [dE],by rw [Nat.zero_mul];exact aF.out⟩
 obtain ⟨k,hk,rfl,rfl,hm⟩:=hrel
 have HM:=Hd hm
 clear hm
 by_cases aG:k<n
 ·have q:k<xs.length:=by rw [HL.out];exact aG
  have J:Hid ((xs.flatMap Blk.cells)[k * 3]?=some (.int ((xs[k]?.getD Blk.zero).kind))):=dS (cells:=Blk.cells) (s:=3) (z:=Blk.zero) (r:=0) (fun _=>rfl) q (by omega)
  have ax:=eQ J.out
  have D:Hid ((xs.flatMap Blk.cells)[k * 3+1]?=some (.int ((xs[k]?.getD Blk.zero).item))):=dS (cells:=Blk.cells) (s:=3) (z:=Blk.zero) (r:=1) (fun _=>rfl) q (by omega)
  have aE:=eQ D.out
  have al:Hid ((xs.flatMap Blk.cells)[k * 3+2]?=some (cZ (xs[k]?.getD Blk.zero).les)):=dS (cells:=Blk.cells) (s:=3) (z:=Blk.zero) (r:=2) (fun _=>rfl) q (by omega)
  have a1:=eQ al.out
  have aQ:=jH (xs.flatMap Blk.cells) (k * 3+3)
  try simp only [ak] at ax
  try simp only [ak] at aE
  have am:(k+1) * 3=k * 3+3:=by omega
  generalize ae:dE ((xs.flatMap Blk.cells).take (k * 3))=K0 at *
  generalize V:dE ((xs.flatMap Blk.cells).take (k * 3+1))=K1 at *
  generalize ah:dE ((xs.flatMap Blk.cells).take (k * 3+2))=K2 at *
  generalize W:dE ((xs.flatMap Blk.cells).take (k * 3+3))=K3 at *
  generalize Z:ak (cZ (xs[k]?.getD Blk.zero).les)=q2 at *
  have B:=H.out
  obtain ⟨aD,H,aA,av,ai⟩:=hd5 ae V ah W Z
  obtain ⟨i0,i1⟩:=ib (by omega:k<n)
  have af:=Hd am
  clear q am ae V ah W Z
  obtain ⟨c0,f0,aB⟩:=HM.out.get j.out (by omega) J.out
  have ay:=Hd (HM.out.put j.out J.out (y:=k0+(K0:Int)) (by rw [aD.out]))
  obtain ⟨c1,f1,ar⟩:=HM.out.get j.out (by omega) D.out
  have aw:=Hd (ay.out.put j.out D.out (y:=k0+(K0:Int)+1) (by rw [H.out];omega))
  obtain ⟨S2,m2,p2,G2,U,K,ad,R,Y⟩:=aw.out.row j.out al.out
  rw [lZ (by omega),lZ (by omega)] at U
  simp only [World.size_setCell] at K
  obtain ⟨G,Q,u⟩:=hd3 ad Y R
  clear ad Y R
  have aj:=ji G.out
  go_wp2_with fail
  refine (zX S2 m2 p2 _ G2 _ _ G.out u.out (by omega) (by rw [ai.out];omega)).mono ?_
  rw [ai.out]
  rintro _ w1 ⟨rfl,o1,g1⟩
  have au:=Hd (Q.out _ w1 (by rw [aA.out];omega) o1 g1)
  clear o1 g1 G Q u aj c0 f0 aB c1 f1 ar U K
  go_wp2_with fail
  go_roundw
  ·exact ⟨k+1,by omega,by go_num,by rw [af.out,av.out];congr 1;omega,by rw [af.out];exact au.out⟩
  simp [intOf];omega
 have aC:k=n:=by omega
 subst aC
 have hd:=HM.out.done (by rw [eZ (s:=3) (fun _=>rfl),HL.out];exact Nat.le_refl _)
 have HD:=Hd hd
 have HV:Hid (dE ((xs.flatMap Blk.cells).take (k * 3))=ak (aa xs)):=by show _=_;rw [I.out,List.take_of_length_le (by rw [eZ (s:=3) (fun _=>rfl),HL.out];exact Nat.le_refl _)]
 rw [HV.out]
 clear hd
 go_wp2_with fail
 go_ret
 exact ⟨rfl,HD.out.1,HD.out.2⟩
theorem xu (A:Option Addr) (n c:Nat) (xs:List bS) (F:List Nat) (k0:Int) (w:World) (h:bO w (bR xs) (.slice A n c) F) (hF:F.Nodup) (ax:0<=k0) (q:k0+(ak (bR xs):Int)<=1099511627776) :
  Calls Tryz.prog 144 #[.slice A n c,.int .i64 k0] w fun e w'=>e = .returned (.int .i64 (k0+(ak (bR xs):Int)))/\bO w' (mkC k0 (bR xs)) (.slice A n c) F/\gp F w w':=by
 have hl:xs.length=n:=by have h1:=gW h;unfold bR at h1;rw [eZ (s:=2) (fun _=>rfl)] at h1;omega
 have hn:=ji h
 obtain ⟨Y,V,j⟩:=hd3 hl h hF
 have G:Hid (ak (bR xs)=dE (xs.flatMap bS.cells)):=by show _=_;rw [bR,ak]
 rw [G.out] at q
 have B:=Hd q
 clear h hF hl
 by_cases ad:n=0
 ·subst ad
  have hx:xs=[]:=List.eq_nil_of_length_eq_zero Y.out
  subst hx
  go_enter Tryz.func144,Tryz.ntmps144
  go_wp2_with fail
  go_loopw [1,5] (fun v i wr=>v = .int .i64 k0/\i = .int .i64 0/\w=wr) (fun _ _ _=>0)
  ·exact ⟨rfl,rfl,rfl⟩
  obtain ⟨rfl,rfl,rfl⟩:=hrel
  go_wp2_with fail
  go_ret
  exact ⟨aL (by rw [G.out];simp [dE]),V.out,gp.refl _ _⟩
 obtain ⟨g,rfl,U⟩:=lg (k0:=k0) V.out (by rw [gW V.out];omega)
 have al:=Hd U
 clear U V
 go_enter Tryz.func144,Tryz.ntmps144
 go_wp2_with fail
 go_loopw [1,5] (fun v i wr=>∃k:Nat,k<=n/\i = .int .i64 (k:Int)/\v = .int .i64 (k0+(dE ((xs.flatMap bS.cells).take (k * 2)):Int))/\Mkd F 100 2 n c g k0 (xs.flatMap bS.cells) w wr (k * 2)) (fun _ i _=>n - (intOf i).toNat)
 ·exact ⟨0,by omega,rfl,by simp [dE],by rw [Nat.zero_mul];exact al.out⟩
 obtain ⟨k,hk,rfl,rfl,hm⟩:=hrel
 have W:=Hd hm
 clear hm
 by_cases am:k<n
 ·have u:k<xs.length:=by rw [Y.out];exact am
  have D:Hid ((xs.flatMap bS.cells)[k * 2]?=some (.int ((xs[k]?.getD bS.zero).block))):=dS (cells:=bS.cells) (s:=2) (z:=bS.zero) (r:=0) (fun _=>rfl) u (by omega)
  have ag:=eQ D.out
  have H:Hid ((xs.flatMap bS.cells)[k * 2+1]?=some (.int ((xs[k]?.getD bS.zero).pin))):=dS (cells:=bS.cells) (s:=2) (z:=bS.zero) (r:=1) (fun _=>rfl) u (by omega)
  have aj:=eQ H.out
  have ay:=jH (xs.flatMap bS.cells) (k * 2+2)
  try simp only [ak] at ag
  try simp only [ak] at aj
  have K:(k+1) * 2=k * 2+2:=by omega
  generalize J:dE ((xs.flatMap bS.cells).take (k * 2))=K0 at *
  generalize Q:dE ((xs.flatMap bS.cells).take (k * 2+1))=K1 at *
  generalize I:dE ((xs.flatMap bS.cells).take (k * 2+2))=K2 at *
  have q:=B.out
  obtain ⟨ai,B,af⟩:=hd3 J Q I
  obtain ⟨i0,i1⟩:=ib (by omega:k<n)
  have R:=Hd K
  clear u K J Q I
  obtain ⟨c0,f0,aw⟩:=W.out.get j.out (by omega) D.out
  have Z:=Hd (W.out.put j.out D.out (y:=k0+(K0:Int)) (by rw [ai.out]))
  obtain ⟨c1,f1,av⟩:=W.out.get j.out (by omega) H.out
  have ae:=Hd (Z.out.put j.out H.out (y:=k0+(K0:Int)+1) (by rw [B.out];omega))
  go_wp2_with fail
  go_roundw
  ·exact ⟨k+1,by omega,by go_num,by rw [R.out,af.out];congr 1;omega,by rw [R.out];exact ae.out⟩
  simp [intOf];omega
 have ah:k=n:=by omega
 subst ah
 have hd:=W.out.done (by rw [eZ (s:=2) (fun _=>rfl),Y.out];exact Nat.le_refl _)
 have HD:=Hd hd
 have HV:Hid (dE ((xs.flatMap bS.cells).take (k * 2))=ak (bR xs)):=by show _=_;rw [G.out,List.take_of_length_le (by rw [eZ (s:=2) (fun _=>rfl),Y.out];exact Nat.le_refl _)]
 rw [HV.out]
 clear hd
 go_wp2_with fail
 go_ret
 exact ⟨rfl,HD.out.1,HD.out.2⟩
theorem wD (A:Option Addr) (n c:Nat) (xs:List Cn) (F:List Nat) (k0:Int) (w:World) (h:bO w (ah xs) (.slice A n c) F) (hF:F.Nodup) (a6:0<=k0) (B:k0+(ak (ah xs):Int)<=1099511627776) :
  Calls Tryz.prog 62 #[.slice A n c,.int .i64 k0] w fun e w'=>e = .returned (.int .i64 (k0+(ak (ah xs):Int)))/\bO w' (mkC k0 (ah xs)) (.slice A n c) F/\gp F w w':=by
 have hl:xs.length=n:=by have h1:=gW h;unfold ah at h1;rw [eZ (s:=4) (fun _=>rfl)] at h1;omega
 have hn:=ji h
 obtain ⟨HL,HO,j⟩:=hd3 hl h hF
 have I:Hid (ak (ah xs)=dE (xs.flatMap Cn.cells)):=by show _=_;rw [ah,ak]
 rw [I.out] at B
 have H:=Hd B
 clear h hF hl
 by_cases aG:n=0
 ·subst aG
  have hx:xs=[]:=List.eq_nil_of_length_eq_zero HL.out
  subst hx
  go_enter Tryz.func62,Tryz.ntmps62
  go_wp2_with fail
  go_loopw [1,5] (fun v i wr=>v = .int .i64 k0/\i = .int .i64 0/\w=wr) (fun _ _ _=>0)
  ·exact ⟨rfl,rfl,rfl⟩
  obtain ⟨rfl,rfl,rfl⟩:=hrel
  go_wp2_with fail
  go_ret
  exact ⟨aL (by rw [I.out];simp [dE]),HO.out,gp.refl _ _⟩
 obtain ⟨g,rfl,aj⟩:=lg (k0:=k0) HO.out (by rw [gW HO.out];omega)
 have aO:=Hd aj
 clear aj HO
 go_enter Tryz.func62,Tryz.ntmps62
 go_wp2_with fail
 go_loopw [1,5] (fun v i wr=>∃k:Nat,k<=n/\i = .int .i64 (k:Int)/\v = .int .i64 (k0+(dE ((xs.flatMap Cn.cells).take (k * 4)):Int))/\Mkd F 158 4 n c g k0 (xs.flatMap Cn.cells) w wr (k * 4)) (fun _ i _=>n - (intOf i).toNat)
 ·exact ⟨0,by omega,rfl,by simp [dE],by rw [Nat.zero_mul];exact aO.out⟩
 obtain ⟨k,hk,rfl,rfl,hm⟩:=hrel
 have HM:=Hd hm
 clear hm
 by_cases aP:k<n
 ·have q:k<xs.length:=by rw [HL.out];exact aP
  have K:Hid ((xs.flatMap Cn.cells)[k * 4]?=some (.int ((xs[k]?.getD Cn.zero).node))):=dS (cells:=Cn.cells) (s:=4) (z:=Cn.zero) (r:=0) (fun _=>rfl) q (by omega)
  have aD:=eQ K.out
  have G:Hid ((xs.flatMap Cn.cells)[k * 4+1]?=some (.int ((xs[k]?.getD Cn.zero).src.block))):=dS (cells:=Cn.cells) (s:=4) (z:=Cn.zero) (r:=1) (fun _=>rfl) q (by omega)
  have aM:=eQ G.out
  have J:Hid ((xs.flatMap Cn.cells)[k * 4+2]?=some (.int ((xs[k]?.getD Cn.zero).src.pin))):=dS (cells:=Cn.cells) (s:=4) (z:=Cn.zero) (r:=2) (fun _=>rfl) q (by omega)
  have aN:=eQ J.out
  have U:Hid ((xs.flatMap Cn.cells)[k * 4+3]?=some (bR (xs[k]?.getD Cn.zero).sinks)):=dS (cells:=Cn.cells) (s:=4) (z:=Cn.zero) (r:=3) (fun _=>rfl) q (by omega)
  have a2:=eQ U.out
  have aX:=jH (xs.flatMap Cn.cells) (k * 4+4)
  try simp only [ak] at aD
  try simp only [ak] at aM
  try simp only [ak] at aN
  have aq:(k+1) * 4=k * 4+4:=by omega
  generalize ad:dE ((xs.flatMap Cn.cells).take (k * 4))=K0 at *
  generalize Y:dE ((xs.flatMap Cn.cells).take (k * 4+1))=K1 at *
  generalize am:dE ((xs.flatMap Cn.cells).take (k * 4+2))=K2 at *
  generalize Z:dE ((xs.flatMap Cn.cells).take (k * 4+3))=K3 at *
  generalize ag:dE ((xs.flatMap Cn.cells).take (k * 4+4))=K4 at *
  generalize Q:ak (bR (xs[k]?.getD Cn.zero).sinks)=q3 at *
  have B:=H.out
  obtain ⟨aK,H,aH,aB,aE,R⟩:=hd6 ad Y am Z ag Q
  obtain ⟨i0,i1⟩:=ib (by omega:k<n)
  have ai:=Hd aq
  clear q aq ad Y am Z ag Q
  obtain ⟨c0,f0,aI⟩:=HM.out.get j.out (by omega) K.out
  have aF:=Hd (HM.out.put j.out K.out (y:=k0+(K0:Int)) (by rw [aK.out]))
  obtain ⟨c1,f1,aw⟩:=HM.out.get j.out (by omega) G.out
  have aC:=Hd (aF.out.put j.out G.out (y:=k0+(K0:Int)+1) (by rw [H.out];omega))
  obtain ⟨c2,f2,ax⟩:=HM.out.get j.out (by omega) J.out
  have ay:=Hd (aC.out.put j.out J.out (y:=k0+(K0:Int)+1+1) (by rw [aH.out];omega))
  obtain ⟨S3,m3,p3,G3,ar,af,W,ap,al⟩:=ay.out.row j.out U.out
  rw [lZ (by omega),lZ (by omega),lZ (by omega)] at ar
  simp only [World.size_setCell] at af
  obtain ⟨D,ao,u⟩:=hd3 W al ap
  clear W al ap
  have V:=ji D.out
  go_wp2_with fail
  refine (xu S3 m3 p3 _ G3 _ _ D.out u.out (by omega) (by rw [R.out];omega)).mono ?_
  rw [R.out]
  rintro _ w1 ⟨rfl,o1,g1⟩
  have az:=Hd (ao.out _ w1 (by rw [aB.out];omega) o1 g1)
  clear o1 g1 D ao u V c0 f0 aI c1 f1 aw c2 f2 ax ar af
  go_wp2_with fail
  go_roundw
  ·exact ⟨k+1,by omega,by go_num,by rw [ai.out,aE.out];congr 1;omega,by rw [ai.out];exact az.out⟩
  simp [intOf];omega
 have aJ:k=n:=by omega
 subst aJ
 have hd:=HM.out.done (by rw [eZ (s:=4) (fun _=>rfl),HL.out];exact Nat.le_refl _)
 have HD:=Hd hd
 have HV:Hid (dE ((xs.flatMap Cn.cells).take (k * 4))=ak (ah xs)):=by show _=_;rw [I.out,List.take_of_length_le (by rw [eZ (s:=4) (fun _=>rfl),HL.out];exact Nat.le_refl _)]
 rw [HV.out]
 clear hd
 go_wp2_with fail
 go_ret
 exact ⟨rfl,HD.out.1,HD.out.2⟩
theorem vH (A:Option Addr) (n c:Nat) (xs:List Rou) (F:List Nat) (k0:Int) (w:World) (h:bO w (bH xs) (.slice A n c) F) (hF:F.Nodup) (a4:0<=k0) (B:k0+(ak (bH xs):Int)<=1099511627776) :
  Calls Tryz.prog 64 #[.slice A n c,.int .i64 k0] w fun e w'=>e = .returned (.int .i64 (k0+(ak (bH xs):Int)))/\bO w' (mkC k0 (bH xs)) (.slice A n c) F/\gp F w w':=by
 have hl:xs.length=n:=by have h1:=gW h;unfold bH at h1;rw [eZ (s:=2) (fun _=>rfl)] at h1;omega
 have hn:=ji h
 obtain ⟨HL,HO,Y⟩:=hd3 hl h hF
 have H:Hid (ak (bH xs)=dE (xs.flatMap Rou.cells)):=by show _=_;rw [bH,ak]
 rw [H.out] at B
 have G:=Hd B
 clear h hF hl
 by_cases j:n=0
 ·subst j
  have hx:xs=[]:=List.eq_nil_of_length_eq_zero HL.out
  subst hx
  go_enter Tryz.func64,Tryz.ntmps64
  go_wp2_with fail
  go_loopw [1,5] (fun v i wr=>v = .int .i64 k0/\i = .int .i64 0/\w=wr) (fun _ _ _=>0)
  ·exact ⟨rfl,rfl,rfl⟩
  obtain ⟨rfl,rfl,rfl⟩:=hrel
  go_wp2_with fail
  go_ret
  exact ⟨aL (by rw [H.out];simp [dE]),HO.out,gp.refl _ _⟩
 obtain ⟨g,rfl,ae⟩:=lg (k0:=k0) HO.out (by rw [gW HO.out];omega)
 have aG:=Hd ae
 clear ae HO
 go_enter Tryz.func64,Tryz.ntmps64
 go_wp2_with fail
 go_loopw [1,5] (fun v i wr=>∃k:Nat,k<=n/\i = .int .i64 (k:Int)/\v = .int .i64 (k0+(dE ((xs.flatMap Rou.cells).take (k * 2)):Int))/\Mkd F 114 2 n c g k0 (xs.flatMap Rou.cells) w wr (k * 2)) (fun _ i _=>n - (intOf i).toNat)
 ·exact ⟨0,by omega,rfl,by simp [dE],by rw [Nat.zero_mul];exact aG.out⟩
 obtain ⟨k,hk,rfl,rfl,hm⟩:=hrel
 have HM:=Hd hm
 clear hm
 by_cases aI:k<n
 ·have D:k<xs.length:=by rw [HL.out];exact aI
  have au:Hid ((xs.flatMap Rou.cells)[k * 2]?=some (aH (xs[k]?.getD Rou.zero).nodes)):=dS (cells:=Rou.cells) (s:=2) (z:=Rou.zero) (r:=0) (fun _=>rfl) D (by omega)
  have a3:=eQ au.out
  have ag:Hid ((xs.flatMap Rou.cells)[k * 2+1]?=some (aH (xs[k]?.getD Rou.zero).from_)):=dS (cells:=Rou.cells) (s:=2) (z:=Rou.zero) (r:=1) (fun _=>rfl) D (by omega)
  have a7:=eQ ag.out
  have aU:=jH (xs.flatMap Rou.cells) (k * 2+2)
  have ar:(k+1) * 2=k * 2+2:=by omega
  generalize W:dE ((xs.flatMap Rou.cells).take (k * 2))=K0 at *
  generalize R:dE ((xs.flatMap Rou.cells).take (k * 2+1))=K1 at *
  generalize ah:dE ((xs.flatMap Rou.cells).take (k * 2+2))=K2 at *
  generalize am:ak (aH (xs[k]?.getD Rou.zero).nodes)=q0 at *
  generalize ai:ak (aH (xs[k]?.getD Rou.zero).from_)=q1 at *
  have B:=G.out
  obtain ⟨aF,G,aB,ao,aj⟩:=hd5 W R ah am ai
  obtain ⟨i0,i1⟩:=ib (by omega:k<n)
  have ad:=Hd ar
  clear D ar W R ah am ai
  obtain ⟨S0,m0,p0,G0,ay,aC,V,j,af⟩:=HM.out.row Y.out au.out
  obtain ⟨I,ap,q⟩:=hd3 V af j
  clear V af j
  have Z:=ji I.out
  go_wp2_with fail
  refine (lU S0 m0 p0 _ G0 _ _ I.out q.out (by omega) (by rw [ao.out];omega)).mono ?_
  rw [ao.out]
  rintro _ w1 ⟨rfl,o1,g1⟩
  have aA:=Hd (ap.out _ w1 (by rw [aF.out]) o1 g1)
  clear o1 g1 I ap q Z ay aC
  obtain ⟨S1,m1,p1,G1,aD,ax,aq,K,U⟩:=aA.out.row Y.out ag.out
  obtain ⟨J,Q,u⟩:=hd3 aq U K
  clear aq U K
  have al:=ji J.out
  go_wp2_with fail
  refine (lU S1 m1 p1 _ G1 _ _ J.out u.out (by omega) (by rw [aj.out];omega)).mono ?_
  rw [aj.out]
  rintro _ w2 ⟨rfl,o2,g2⟩
  have az:=Hd (Q.out _ w2 (by rw [G.out];omega) o2 g2)
  clear o2 g2 J Q u al aD ax
  go_wp2_with fail
  go_roundw
  ·exact ⟨k+1,by omega,by go_num,by rw [ad.out,aB.out];congr 1;omega,by rw [ad.out];exact az.out⟩
  simp [intOf];omega
 have aE:k=n:=by omega
 subst aE
 have hd:=HM.out.done (by rw [eZ (s:=2) (fun _=>rfl),HL.out];exact Nat.le_refl _)
 have HD:=Hd hd
 have HV:Hid (dE ((xs.flatMap Rou.cells).take (k * 2))=ak (bH xs)):=by show _=_;rw [H.out,List.take_of_length_le (by rw [eZ (s:=2) (fun _=>rfl),HL.out];exact Nat.le_refl _)]
 rw [HV.out]
 clear hd
 go_wp2_with fail
 go_ret
 exact ⟨rfl,HD.out.1,HD.out.2⟩
theorem xw (A:Option Addr) (n c:Nat) (xs:List Lt) (F:List Nat) (k0:Int) (w:World) (h:bO w (bM xs) (.slice A n c) F) (hF:F.Nodup) (aR:0<=k0) (u:k0+(ak (bM xs):Int)<=1099511627776) :
  Calls Tryz.prog 102 #[.slice A n c,.int .i64 k0] w fun e w'=>e = .returned (.int .i64 (k0+(ak (bM xs):Int)))/\bO w' (mkC k0 (bM xs)) (.slice A n c) F/\gp F w w':=by
 have hl:xs.length=n:=by have h1:=gW h;unfold bM at h1;rw [eZ (s:=2) (fun _=>rfl)] at h1;omega
 have hn:=ji h
 obtain ⟨HL,HO,B⟩:=hd3 hl h hF
 have I:Hid (ak (bM xs)=dE (xs.flatMap Lt.cells)):=by show _=_;rw [bM,ak]
 rw [I.out] at u
 have H:=Hd u
 clear h hF hl
 by_cases j:n=0
 ·subst j
  have hx:xs=[]:=List.eq_nil_of_length_eq_zero HL.out
  subst hx
  go_enter Tryz.func102,Tryz.ntmps102
  go_wp2_with fail
  go_loopw [1,5] (fun v i wr=>v = .int .i64 k0/\i = .int .i64 0/\w=wr) (fun _ _ _=>0)
  ·exact ⟨rfl,rfl,rfl⟩
  obtain ⟨rfl,rfl,rfl⟩:=hrel
  go_wp2_with fail
  go_ret
  exact ⟨aL (by rw [I.out];simp [dE]),HO.out,gp.refl _ _⟩
 obtain ⟨g,rfl,W⟩:=lg (k0:=k0) HO.out (by rw [gW HO.out];omega)
 have aw:=Hd W
 clear W HO
 go_enter Tryz.func102,Tryz.ntmps102
 go_wp2_with fail
 go_loopw [1,5] (fun v i wr=>∃k:Nat,k<=n/\i = .int .i64 (k:Int)/\v = .int .i64 (k0+(dE ((xs.flatMap Lt.cells).take (k * 2)):Int))/\Mkd F 96 2 n c g k0 (xs.flatMap Lt.cells) w wr (k * 2)) (fun _ i _=>n - (intOf i).toNat)
 ·exact ⟨0,by omega,rfl,by simp [dE],by rw [Nat.zero_mul];exact aw.out⟩
 obtain ⟨k,hk,rfl,rfl,hm⟩:=hrel
 have HM:=Hd hm
 clear hm
 by_cases ax:k<n
 ·have G:k<xs.length:=by rw [HL.out];exact ax
  have ai:Hid ((xs.flatMap Lt.cells)[k * 2]?=some (aH (xs[k]?.getD Lt.zero).ins)):=dS (cells:=Lt.cells) (s:=2) (z:=Lt.zero) (r:=0) (fun _=>rfl) G (by omega)
  have aQ:=eQ ai.out
  have D:Hid ((xs.flatMap Lt.cells)[k * 2+1]?=some (.int ((xs[k]?.getD Lt.zero).mask))):=dS (cells:=Lt.cells) (s:=2) (z:=Lt.zero) (r:=1) (fun _=>rfl) G (by omega)
  have av:=eQ D.out
  have aG:=jH (xs.flatMap Lt.cells) (k * 2+2)
  try simp only [ak] at av
  have ah:(k+1) * 2=k * 2+2:=by omega
  generalize R:dE ((xs.flatMap Lt.cells).take (k * 2))=K0 at *
  generalize K:dE ((xs.flatMap Lt.cells).take (k * 2+1))=K1 at *
  generalize Z:dE ((xs.flatMap Lt.cells).take (k * 2+2))=K2 at *
  generalize ad:ak (aH (xs[k]?.getD Lt.zero).ins)=q0 at *
  have u:=H.out
  obtain ⟨au,H,ap,ae⟩:=hd4 R K Z ad
  obtain ⟨i0,i1⟩:=ib (by omega:k<n)
  have V:=Hd ah
  clear G ah R K Z ad
  obtain ⟨S0,m0,p0,G0,am,aq,Q,j,Y⟩:=HM.out.row B.out ai.out
  obtain ⟨J,af,q⟩:=hd3 Q Y j
  clear Q Y j
  have U:=ji J.out
  go_wp2_with fail
  refine (lU S0 m0 p0 _ G0 _ _ J.out q.out (by omega) (by rw [ae.out];omega)).mono ?_
  rw [ae.out]
  rintro _ w1 ⟨rfl,o1,g1⟩
  have ag:=Hd (af.out _ w1 (by rw [au.out]) o1 g1)
  clear o1 g1 J af q U am aq
  obtain ⟨c1,f1,aF⟩:=ag.out.get B.out (by omega) D.out
  have ao:=Hd (ag.out.put B.out D.out (y:=k0+(K0:Int)+(q0:Int)) (by rw [H.out];omega))
  go_wp2_with fail
  go_roundw
  ·exact ⟨k+1,by omega,by go_num,by rw [V.out,ap.out];congr 1;omega,by rw [V.out];exact ao.out⟩
  simp [intOf];omega
 have ar:k=n:=by omega
 subst ar
 have hd:=HM.out.done (by rw [eZ (s:=2) (fun _=>rfl),HL.out];exact Nat.le_refl _)
 have HD:=Hd hd
 have HV:Hid (dE ((xs.flatMap Lt.cells).take (k * 2))=ak (bM xs)):=by show _=_;rw [I.out,List.take_of_length_le (by rw [eZ (s:=2) (fun _=>rfl),HL.out];exact Nat.le_refl _)]
 rw [HV.out]
 clear hd
 go_wp2_with fail
 go_ret
 exact ⟨rfl,HD.out.1,HD.out.2⟩
theorem xx (A:Option Addr) (n c:Nat) (xs:List Sq) (F:List Nat) (k0:Int) (w:World) (h:bO w (bD xs) (.slice A n c) F) (hF:F.Nodup) (aY:0<=k0) (B:k0+(ak (bD xs):Int)<=1099511627776) :
  Calls Tryz.prog 101 #[.slice A n c,.int .i64 k0] w fun e w'=>e = .returned (.int .i64 (k0+(ak (bD xs):Int)))/\bO w' (mkC k0 (bD xs)) (.slice A n c) F/\gp F w w':=by
 have hl:xs.length=n:=by have h1:=gW h;unfold bD at h1;rw [eZ (s:=3) (fun _=>rfl)] at h1;omega
 have hn:=ji h
 obtain ⟨HL,HO,j⟩:=hd3 hl h hF
 have I:Hid (ak (bD xs)=dE (xs.flatMap Sq.cells)):=by show _=_;rw [bD,ak]
 rw [I.out] at B
 have H:=Hd B
 clear h hF hl
 by_cases az:n=0
 ·subst az
  have hx:xs=[]:=List.eq_nil_of_length_eq_zero HL.out
  subst hx
  go_enter Tryz.func101,Tryz.ntmps101
  go_wp2_with fail
  go_loopw [1,5] (fun v i wr=>v = .int .i64 k0/\i = .int .i64 0/\w=wr) (fun _ _ _=>0)
  ·exact ⟨rfl,rfl,rfl⟩
  obtain ⟨rfl,rfl,rfl⟩:=hrel
  go_wp2_with fail
  go_ret
  exact ⟨aL (by rw [I.out];simp [dE]),HO.out,gp.refl _ _⟩
 obtain ⟨g,rfl,ag⟩:=lg (k0:=k0) HO.out (by rw [gW HO.out];omega)
 have aF:=Hd ag
 clear ag HO
 go_enter Tryz.func101,Tryz.ntmps101
 go_wp2_with fail
 go_loopw [1,5] (fun v i wr=>∃k:Nat,k<=n/\i = .int .i64 (k:Int)/\v = .int .i64 (k0+(dE ((xs.flatMap Sq.cells).take (k * 3)):Int))/\Mkd F 91 3 n c g k0 (xs.flatMap Sq.cells) w wr (k * 3)) (fun _ i _=>n - (intOf i).toNat)
 ·exact ⟨0,by omega,rfl,by simp [dE],by rw [Nat.zero_mul];exact aF.out⟩
 obtain ⟨k,hk,rfl,rfl,hm⟩:=hrel
 have HM:=Hd hm
 clear hm
 by_cases aG:k<n
 ·have q:k<xs.length:=by rw [HL.out];exact aG
  have J:Hid ((xs.flatMap Sq.cells)[k * 3]?=some (.int ((xs[k]?.getD Sq.zero).kind))):=dS (cells:=Sq.cells) (s:=3) (z:=Sq.zero) (r:=0) (fun _=>rfl) q (by omega)
  have ax:=eQ J.out
  have D:Hid ((xs.flatMap Sq.cells)[k * 3+1]?=some (.int ((xs[k]?.getD Sq.zero).init))):=dS (cells:=Sq.cells) (s:=3) (z:=Sq.zero) (r:=1) (fun _=>rfl) q (by omega)
  have aE:=eQ D.out
  have al:Hid ((xs.flatMap Sq.cells)[k * 3+2]?=some (aH (xs[k]?.getD Sq.zero).ins)):=dS (cells:=Sq.cells) (s:=3) (z:=Sq.zero) (r:=2) (fun _=>rfl) q (by omega)
  have a2:=eQ al.out
  have aR:=jH (xs.flatMap Sq.cells) (k * 3+3)
  try simp only [ak] at ax
  try simp only [ak] at aE
  have am:(k+1) * 3=k * 3+3:=by omega
  generalize ae:dE ((xs.flatMap Sq.cells).take (k * 3))=K0 at *
  generalize V:dE ((xs.flatMap Sq.cells).take (k * 3+1))=K1 at *
  generalize ah:dE ((xs.flatMap Sq.cells).take (k * 3+2))=K2 at *
  generalize W:dE ((xs.flatMap Sq.cells).take (k * 3+3))=K3 at *
  generalize Z:ak (aH (xs[k]?.getD Sq.zero).ins)=q2 at *
  have B:=H.out
  obtain ⟨aD,H,aA,av,ai⟩:=hd5 ae V ah W Z
  obtain ⟨i0,i1⟩:=ib (by omega:k<n)
  have af:=Hd am
  clear q am ae V ah W Z
  obtain ⟨c0,f0,aB⟩:=HM.out.get j.out (by omega) J.out
  have ay:=Hd (HM.out.put j.out J.out (y:=k0+(K0:Int)) (by rw [aD.out]))
  obtain ⟨c1,f1,ar⟩:=HM.out.get j.out (by omega) D.out
  have aw:=Hd (ay.out.put j.out D.out (y:=k0+(K0:Int)+1) (by rw [H.out];omega))
  obtain ⟨S2,m2,p2,G2,U,K,ad,R,Y⟩:=aw.out.row j.out al.out
  rw [lZ (by omega),lZ (by omega)] at U
  simp only [World.size_setCell] at K
  obtain ⟨G,Q,u⟩:=hd3 ad Y R
  clear ad Y R
  have aj:=ji G.out
  go_wp2_with fail
  refine (lU S2 m2 p2 _ G2 _ _ G.out u.out (by omega) (by rw [ai.out];omega)).mono ?_
  rw [ai.out]
  rintro _ w1 ⟨rfl,o1,g1⟩
  have au:=Hd (Q.out _ w1 (by rw [aA.out];omega) o1 g1)
  clear o1 g1 G Q u aj c0 f0 aB c1 f1 ar U K
  go_wp2_with fail
  go_roundw
  ·exact ⟨k+1,by omega,by go_num,by rw [af.out,av.out];congr 1;omega,by rw [af.out];exact au.out⟩
  simp [intOf];omega
 have aC:k=n:=by omega
 subst aC
 have hd:=HM.out.done (by rw [eZ (s:=3) (fun _=>rfl),HL.out];exact Nat.le_refl _)
 have HD:=Hd hd
 have HV:Hid (dE ((xs.flatMap Sq.cells).take (k * 3))=ak (bD xs)):=by show _=_;rw [I.out,List.take_of_length_le (by rw [eZ (s:=3) (fun _=>rfl),HL.out];exact Nat.le_refl _)]
 rw [HV.out]
 clear hd
 go_wp2_with fail
 go_ret
 exact ⟨rfl,HD.out.1,HD.out.2⟩
theorem p8 {P:Program} {f:FuncId} {i j n p:Nat} {W w:World} {ps:List Pc} {cs:List Cel} {vs:List Value} {c:Cel} {A:Option Addr} {k0:Int} (h:aJ W w ps) (hi:ps[i]?=some (.cels cs vs)) (hc:cs[j]?=some c) (G:vs[j]?=some (.slice A n p))
  (hf:∀F,bO w c (.slice A n p) F→F.Nodup→Calls P f #[.slice A n p,.int .i64 k0] w fun e w'=>e = .returned (.int .i64 (k0+(ak c:Int)))/\bO w' (mkC k0 c) (.slice A n p) F/\gp F w w') :
  Calls P f #[.slice A n p,.int .i64 k0] w fun e w'=>e = .returned (.int .i64 (k0+(ak c:Int)))/\aJ W w' (ps.set i (.cels (cs.set j (mkC k0 c)) vs)):=by
 obtain ⟨F,h1,h2,h3,h4⟩:=h.part i hi
 have g:fB w cs vs F:=h1
 obtain ⟨V,U,R,D,F2,e1,e2,rfl,h5,J⟩:=g.at_ (List.getElem?_eq_some_iff.1 hc).1
 rw [hc] at e1
 rw [G] at e2
 injection e1 with e1
 injection e2 with e2
 subst e1 e2
 have z:=h2
 rw [List.nodup_append,List.nodup_append] at h2
 obtain ⟨n1,⟨n2,n3,Q⟩,I⟩:=h2
 have q:=g.lt
 refine (hf D h5 n2).mono ?_
 rintro e w' ⟨rfl,K,u⟩
 have H:=J w' _ _ D K (fun k hk=>u.block k (q k (by simp [hk])) fun B=>I k hk k (by simp [B]) rfl) (fun k hk=>u.block k (q k (by simp [hk])) fun B=>Q k B k hk rfl)
 rw [uW G] at H
 exact ⟨rfl,h4 w' _ _ H z (fun k hk => .inl hk) (u.more fun k hk=>by simp [hk])⟩
theorem qU {α:Type} {l:List α} {i:Nat} {x y:α} (h:l[i]?=some x):(l.set i y)[i]?=some y:=List.getElem?_set_self (List.getElem?_eq_some_iff.1 h).1
theorem vI (q inputs:Int) (SA LA OA:Option Addr) (sn sc ln lc on oc:Nat) (sq:List Sq) (lt:List Lt) (ou:List Int) (B:List Cel) (z:Value) (u:List Value) (W:World) (ps:List Pc) (i:Nat) (k0:Int) (w:World) (h:aJ W w ps) (hi:ps[i]?=some (.cels (.int q :: bD sq :: bM lt :: aH ou :: B) (z :: .slice SA sn sc :: .slice LA ln lc :: .slice OA on oc :: u))) (av:0<=k0) (au:k0+((ak (bD sq)+ak (bM lt)+ak (aH ou):Nat):Int)<=1099511627776) :
  Calls Tryz.prog 29 #[.agg #[.int .i64 inputs,.slice SA sn sc,.slice LA ln lc,.slice OA on oc],.int .i64 k0] w fun e w'=>e = .returned (.int .i64 (k0+(ak (bD sq):Int)+(ak (bM lt):Int)+(ak (aH ou):Int)))/\aJ W w' (ps.set i (.cels (.int q :: mkC (k0) (bD sq) :: mkC (k0+(ak (bD sq):Int)) (bM lt) :: mkC (k0+(ak (bD sq):Int)+(ak (bM lt):Int)) (aH ou) :: B) (z :: .slice SA sn sc :: .slice LA ln lc :: .slice OA on oc :: u))):=by
 have HO:=Hd (h.consBlk #[.int .i64 inputs,.slice SA sn sc,.slice LA ln lc,.slice OA on oc] 41)
 have Y:(Pc.blk w.heap.size #[.int .i64 inputs,.slice SA sn sc,.slice LA ln lc,.slice OA on oc] 41 :: ps)[i+1]?=some (.cels (.int q :: bD sq :: bM lt :: aH ou :: B) (z :: .slice SA sn sc :: .slice LA ln lc :: .slice OA on oc :: u)):=hi
 have Z:=Hd Y
 clear h hi Y
 generalize K:ak (bD sq)=G at *
 have Q:=Hd K
 generalize ad:ak (bM lt)=q2 at *
 have I:=Hd ad
 generalize H:ak (aH ou)=q3 at *
 have R:=Hd H
 clear K ad H
 go_enter Tryz.func29,Tryz.ntmps29
 go_upto_region 1 with fail
 obtain ⟨gx,D⟩:∃g,w.heap.size=g:=⟨_,rfl⟩
 rw [D] at HO Z
 (try rw [D])
 clear D
 generalize w.alloc (.cells #[.int .i64 inputs,.slice SA sn sc,.slice LA ln lc,.slice OA on oc] 41)=W0 at *
 obtain ⟨-,x1,V⟩:=jv ((HO.out.blk 0 rfl).1)
 go_wp2_with fail
 refine (p8 (i:=i+1) (j:=1) HO.out Z.out rfl rfl (fun F a b=>xx SA sn sc _ F _ _ a b (by omega) (by rw [Q.out];omega))).mono ?_
 rw [Q.out]
 rintro _ w0 ⟨rfl,o0⟩
 have J:Hid (aJ W w0 ((Pc.blk gx #[.int .i64 inputs,.slice SA sn sc,.slice LA ln lc,.slice OA on oc] 41 :: ps).set (i+1) (.cels (.int q :: mkC (k0) (bD sq) :: bM lt :: aH ou :: B) (z :: .slice SA sn sc :: .slice LA ln lc :: .slice OA on oc :: u)))):=Hd o0
 have ag:=Hd (qU (y:=Pc.cels (.int q :: mkC (k0) (bD sq) :: bM lt :: aH ou :: B) (z :: .slice SA sn sc :: .slice LA ln lc :: .slice OA on oc :: u)) Z.out)
 clear o0 V x1
 obtain ⟨-,-,x2,V⟩:=jX ((J.out.blk 0 rfl).1)
 go_wp2_with fail
 refine (p8 (i:=i+1) (j:=2) J.out ag.out rfl rfl (fun F a b=>xw LA ln lc _ F _ _ a b (by omega) (by rw [I.out];omega))).mono ?_
 rw [I.out]
 rintro _ w1 ⟨rfl,o1⟩
 rw [List.set_set] at o1
 have U:Hid (aJ W w1 ((Pc.blk gx #[.int .i64 inputs,.slice SA sn sc,.slice LA ln lc,.slice OA on oc] 41 :: ps).set (i+1) (.cels (.int q :: mkC (k0) (bD sq) :: mkC (k0+(G:Int)) (bM lt) :: aH ou :: B) (z :: .slice SA sn sc :: .slice LA ln lc :: .slice OA on oc :: u)))):=Hd o1
 have ae:=Hd (qU (y:=Pc.cels (.int q :: mkC (k0) (bD sq) :: mkC (k0+(G:Int)) (bM lt) :: aH ou :: B) (z :: .slice SA sn sc :: .slice LA ln lc :: .slice OA on oc :: u)) Z.out)
 clear o1 V x2
 obtain ⟨-,-,-,x3,V⟩:=cO ((U.out.blk 0 rfl).1)
 go_wp2_with fail
 refine (p8 (i:=i+1) (j:=3) U.out ae.out rfl rfl (fun F a b=>lU OA on oc _ F _ _ a b (by omega) (by rw [R.out];omega))).mono ?_
 rw [R.out]
 rintro _ w2 ⟨rfl,o2⟩
 rw [List.set_set] at o2
 have ah:Hid (aJ W w2 ((Pc.blk gx #[.int .i64 inputs,.slice SA sn sc,.slice LA ln lc,.slice OA on oc] 41 :: ps).set (i+1) (.cels (.int q :: mkC (k0) (bD sq) :: mkC (k0+(G:Int)) (bM lt) :: mkC (k0+(G:Int)+(q2:Int)) (aH ou) :: B) (z :: .slice SA sn sc :: .slice LA ln lc :: .slice OA on oc :: u)))):=Hd o2
 have ay:=Hd (qU (y:=Pc.cels (.int q :: mkC (k0) (bD sq) :: mkC (k0+(G:Int)) (bM lt) :: mkC (k0+(G:Int)+(q2:Int)) (aH ou) :: B) (z :: .slice SA sn sc :: .slice LA ln lc :: .slice OA on oc :: u)) Z.out)
 clear o2 V x3
 go_wp2_with fail
 go_ret
 exact ⟨rfl,ah.out.tail⟩
theorem vJ (B:Int) (x:Lay) (SA LA OA BA CA PA RA:Option Addr) (sn sc ln lc on oc bn bc cn cc pn pc rn rc:Nat) (W:World) (ps:List Pc) (i:Nat) (k0:Int) (w:World) (h:aJ W w ps) (hi:ps[i]?=some (.cels [.int B,bD x.net.seqs,bM x.net.luts,aH x.net.outs,aa x.blocks,ah x.conns,aH x.place,bH x.routes] [.int .i64 x.net.inputs,.slice SA sn sc,.slice LA ln lc,.slice OA on oc,.slice BA bn bc,.slice CA cn cc,.slice PA pn pc,.slice RA rn rc])) (aQ:0<=k0) (aK:k0+((ak (bD x.net.seqs)+ak (bM x.net.luts)+ak (aH x.net.outs)+ak (aa x.blocks)+ak (ah x.conns)+ak (aH x.place)+ak (bH x.routes):Nat):Int)<=1099511627776) :
  Calls Tryz.prog 16 #[.agg #[.int .i64 x.net.inputs,.slice SA sn sc,.slice LA ln lc,.slice OA on oc,.slice BA bn bc,.slice CA cn cc,.slice PA pn pc,.slice RA rn rc],.int .i64 k0] w fun e w'=>e = .returned (.int .i64 (k0+(ak (bD x.net.seqs):Int)+(ak (bM x.net.luts):Int)+(ak (aH x.net.outs):Int)+(ak (aa x.blocks):Int)+(ak (ah x.conns):Int)+(ak (aH x.place):Int)+(ak (bH x.routes):Int)))/\aJ W w' (ps.set i (.cels [.int B,mkC (k0) (bD x.net.seqs),mkC (k0+(ak (bD x.net.seqs):Int)) (bM x.net.luts),mkC (k0+(ak (bD x.net.seqs):Int)+(ak (bM x.net.luts):Int)) (aH x.net.outs),mkC (k0+(ak (bD x.net.seqs):Int)+(ak (bM x.net.luts):Int)+(ak (aH x.net.outs):Int)) (aa x.blocks),mkC (k0+(ak (bD x.net.seqs):Int)+(ak (bM x.net.luts):Int)+(ak (aH x.net.outs):Int)+(ak (aa x.blocks):Int)) (ah x.conns),mkC (k0+(ak (bD x.net.seqs):Int)+(ak (bM x.net.luts):Int)+(ak (aH x.net.outs):Int)+(ak (aa x.blocks):Int)+(ak (ah x.conns):Int)) (aH x.place),mkC (k0+(ak (bD x.net.seqs):Int)+(ak (bM x.net.luts):Int)+(ak (aH x.net.outs):Int)+(ak (aa x.blocks):Int)+(ak (ah x.conns):Int)+(ak (aH x.place):Int)) (bH x.routes)] [.int .i64 x.net.inputs,.slice SA sn sc,.slice LA ln lc,.slice OA on oc,.slice BA bn bc,.slice CA cn cc,.slice PA pn pc,.slice RA rn rc])):=by
 have HO:=Hd (h.consBlk #[.int .i64 x.net.inputs,.slice SA sn sc,.slice LA ln lc,.slice OA on oc,.slice BA bn bc,.slice CA cn cc,.slice PA pn pc,.slice RA rn rc] 46)
 have R:(Pc.blk w.heap.size #[.int .i64 x.net.inputs,.slice SA sn sc,.slice LA ln lc,.slice OA on oc,.slice BA bn bc,.slice CA cn cc,.slice PA pn pc,.slice RA rn rc] 46 :: ps)[i+1]?=some (.cels [.int B,bD x.net.seqs,bM x.net.luts,aH x.net.outs,aa x.blocks,ah x.conns,aH x.place,bH x.routes] [.int .i64 x.net.inputs,.slice SA sn sc,.slice LA ln lc,.slice OA on oc,.slice BA bn bc,.slice CA cn cc,.slice PA pn pc,.slice RA rn rc]):=hi
 have H:=Hd R
 clear h hi R
 generalize am:ak (bD x.net.seqs)=q at *
 have ap:=Hd am
 generalize U:ak (bM x.net.luts)=u at *
 have aj:=Hd U
 generalize K:ak (aH x.net.outs)=z at *
 have Q:=Hd K
 generalize ad:ak (aa x.blocks)=D at *
 have Y:=Hd ad
 generalize V:ak (ah x.conns)=J at *
 have ae:=Hd V
 generalize af:ak (aH x.place)=q6 at *
 have ag:=Hd af
 generalize aq:ak (bH x.routes)=q7 at *
 have ai:=Hd aq
 clear am U K ad V af aq
 go_enter Tryz.func16,Tryz.ntmps16
 go_upto_region 1 with fail
 obtain ⟨gx,I⟩:∃g,w.heap.size=g:=⟨_,rfl⟩
 rw [I] at HO H
 (try rw [I])
 clear I
 generalize w.alloc (.cells #[.int .i64 x.net.inputs,.slice SA sn sc,.slice LA ln lc,.slice OA on oc,.slice BA bn bc,.slice CA cn cc,.slice PA pn pc,.slice RA rn rc] 46)=W0 at *
 obtain ⟨x0,x1,x2,x3,G⟩:=cO ((HO.out.blk 0 rfl).1)
 go_wp2_with fail
 refine (vI _ _ SA LA OA sn sc ln lc on oc _ _ _ _ _ _ W _ (i+1) _ _ HO.out H.out (by omega) (by rw [ap.out,aj.out,Q.out];omega)).mono ?_
 rw [ap.out,aj.out,Q.out]
 rintro _ w0 ⟨rfl,o0⟩
 have ar:Hid (aJ W w0 ((Pc.blk gx #[.int .i64 x.net.inputs,.slice SA sn sc,.slice LA ln lc,.slice OA on oc,.slice BA bn bc,.slice CA cn cc,.slice PA pn pc,.slice RA rn rc] 46 :: ps).set (i+1) (.cels [.int B,mkC (k0) (bD x.net.seqs),mkC (k0+(q:Int)) (bM x.net.luts),mkC (k0+(q:Int)+(u:Int)) (aH x.net.outs),aa x.blocks,ah x.conns,aH x.place,bH x.routes] [.int .i64 x.net.inputs,.slice SA sn sc,.slice LA ln lc,.slice OA on oc,.slice BA bn bc,.slice CA cn cc,.slice PA pn pc,.slice RA rn rc]))):=Hd o0
 have ay:=Hd (qU (y:=Pc.cels [.int B,mkC (k0) (bD x.net.seqs),mkC (k0+(q:Int)) (bM x.net.luts),mkC (k0+(q:Int)+(u:Int)) (aH x.net.outs),aa x.blocks,ah x.conns,aH x.place,bH x.routes] [.int .i64 x.net.inputs,.slice SA sn sc,.slice LA ln lc,.slice OA on oc,.slice BA bn bc,.slice CA cn cc,.slice PA pn pc,.slice RA rn rc]) H.out)
 clear o0 G x0 x1 x2 x3
 obtain ⟨-,-,-,-,x4,G⟩:=F6 ((ar.out.blk 0 rfl).1)
 go_wp2_with fail
 refine (p8 (i:=i+1) (j:=4) ar.out ay.out rfl rfl (fun F a b=>vG BA bn bc _ F _ _ a b (by omega) (by rw [Y.out];omega))).mono ?_
 rw [Y.out]
 rintro _ w1 ⟨rfl,o1⟩
 rw [List.set_set] at o1
 have au:Hid (aJ W w1 ((Pc.blk gx #[.int .i64 x.net.inputs,.slice SA sn sc,.slice LA ln lc,.slice OA on oc,.slice BA bn bc,.slice CA cn cc,.slice PA pn pc,.slice RA rn rc] 46 :: ps).set (i+1) (.cels [.int B,mkC (k0) (bD x.net.seqs),mkC (k0+(q:Int)) (bM x.net.luts),mkC (k0+(q:Int)+(u:Int)) (aH x.net.outs),mkC (k0+(q:Int)+(u:Int)+(z:Int)) (aa x.blocks),ah x.conns,aH x.place,bH x.routes] [.int .i64 x.net.inputs,.slice SA sn sc,.slice LA ln lc,.slice OA on oc,.slice BA bn bc,.slice CA cn cc,.slice PA pn pc,.slice RA rn rc]))):=Hd o1
 have av:=Hd (qU (y:=Pc.cels [.int B,mkC (k0) (bD x.net.seqs),mkC (k0+(q:Int)) (bM x.net.luts),mkC (k0+(q:Int)+(u:Int)) (aH x.net.outs),mkC (k0+(q:Int)+(u:Int)+(z:Int)) (aa x.blocks),ah x.conns,aH x.place,bH x.routes] [.int .i64 x.net.inputs,.slice SA sn sc,.slice LA ln lc,.slice OA on oc,.slice BA bn bc,.slice CA cn cc,.slice PA pn pc,.slice RA rn rc]) H.out)
 clear o1 G x4
 obtain ⟨-,-,-,-,-,x5,G⟩:=F7 ((au.out.blk 0 rfl).1)
 go_wp2_with fail
 refine (p8 (i:=i+1) (j:=5) au.out av.out rfl rfl (fun F a b=>wD CA cn cc _ F _ _ a b (by omega) (by rw [ae.out];omega))).mono ?_
 rw [ae.out]
 rintro _ w2 ⟨rfl,o2⟩
 rw [List.set_set] at o2
 have ao:Hid (aJ W w2 ((Pc.blk gx #[.int .i64 x.net.inputs,.slice SA sn sc,.slice LA ln lc,.slice OA on oc,.slice BA bn bc,.slice CA cn cc,.slice PA pn pc,.slice RA rn rc] 46 :: ps).set (i+1) (.cels [.int B,mkC (k0) (bD x.net.seqs),mkC (k0+(q:Int)) (bM x.net.luts),mkC (k0+(q:Int)+(u:Int)) (aH x.net.outs),mkC (k0+(q:Int)+(u:Int)+(z:Int)) (aa x.blocks),mkC (k0+(q:Int)+(u:Int)+(z:Int)+(D:Int)) (ah x.conns),aH x.place,bH x.routes] [.int .i64 x.net.inputs,.slice SA sn sc,.slice LA ln lc,.slice OA on oc,.slice BA bn bc,.slice CA cn cc,.slice PA pn pc,.slice RA rn rc]))):=Hd o2
 have aE:=Hd (qU (y:=Pc.cels [.int B,mkC (k0) (bD x.net.seqs),mkC (k0+(q:Int)) (bM x.net.luts),mkC (k0+(q:Int)+(u:Int)) (aH x.net.outs),mkC (k0+(q:Int)+(u:Int)+(z:Int)) (aa x.blocks),mkC (k0+(q:Int)+(u:Int)+(z:Int)+(D:Int)) (ah x.conns),aH x.place,bH x.routes] [.int .i64 x.net.inputs,.slice SA sn sc,.slice LA ln lc,.slice OA on oc,.slice BA bn bc,.slice CA cn cc,.slice PA pn pc,.slice RA rn rc]) H.out)
 clear o2 G x5
 obtain ⟨-,-,-,-,-,-,x6,G⟩:=F4 ((ao.out.blk 0 rfl).1)
 go_wp2_with fail
 refine (p8 (i:=i+1) (j:=6) ao.out aE.out rfl rfl (fun F a b=>lU PA pn pc _ F _ _ a b (by omega) (by rw [ag.out];omega))).mono ?_
 rw [ag.out]
 rintro _ w3 ⟨rfl,o3⟩
 rw [List.set_set] at o3
 have Z:Hid (aJ W w3 ((Pc.blk gx #[.int .i64 x.net.inputs,.slice SA sn sc,.slice LA ln lc,.slice OA on oc,.slice BA bn bc,.slice CA cn cc,.slice PA pn pc,.slice RA rn rc] 46 :: ps).set (i+1) (.cels [.int B,mkC (k0) (bD x.net.seqs),mkC (k0+(q:Int)) (bM x.net.luts),mkC (k0+(q:Int)+(u:Int)) (aH x.net.outs),mkC (k0+(q:Int)+(u:Int)+(z:Int)) (aa x.blocks),mkC (k0+(q:Int)+(u:Int)+(z:Int)+(D:Int)) (ah x.conns),mkC (k0+(q:Int)+(u:Int)+(z:Int)+(D:Int)+(J:Int)) (aH x.place),bH x.routes] [.int .i64 x.net.inputs,.slice SA sn sc,.slice LA ln lc,.slice OA on oc,.slice BA bn bc,.slice CA cn cc,.slice PA pn pc,.slice RA rn rc]))):=Hd o3
 have az:=Hd (qU (y:=Pc.cels [.int B,mkC (k0) (bD x.net.seqs),mkC (k0+(q:Int)) (bM x.net.luts),mkC (k0+(q:Int)+(u:Int)) (aH x.net.outs),mkC (k0+(q:Int)+(u:Int)+(z:Int)) (aa x.blocks),mkC (k0+(q:Int)+(u:Int)+(z:Int)+(D:Int)) (ah x.conns),mkC (k0+(q:Int)+(u:Int)+(z:Int)+(D:Int)+(J:Int)) (aH x.place),bH x.routes] [.int .i64 x.net.inputs,.slice SA sn sc,.slice LA ln lc,.slice OA on oc,.slice BA bn bc,.slice CA cn cc,.slice PA pn pc,.slice RA rn rc]) H.out)
 clear o3 G x6
 obtain ⟨-,-,-,-,-,-,-,x7,G⟩:=mK ((Z.out.blk 0 rfl).1)
 go_wp2_with fail
 refine (p8 (i:=i+1) (j:=7) Z.out az.out rfl rfl (fun F a b=>vH RA rn rc _ F _ _ a b (by omega) (by rw [ai.out];omega))).mono ?_
 rw [ai.out]
 rintro _ w4 ⟨rfl,o4⟩
 rw [List.set_set] at o4
 have ax:Hid (aJ W w4 ((Pc.blk gx #[.int .i64 x.net.inputs,.slice SA sn sc,.slice LA ln lc,.slice OA on oc,.slice BA bn bc,.slice CA cn cc,.slice PA pn pc,.slice RA rn rc] 46 :: ps).set (i+1) (.cels [.int B,mkC (k0) (bD x.net.seqs),mkC (k0+(q:Int)) (bM x.net.luts),mkC (k0+(q:Int)+(u:Int)) (aH x.net.outs),mkC (k0+(q:Int)+(u:Int)+(z:Int)) (aa x.blocks),mkC (k0+(q:Int)+(u:Int)+(z:Int)+(D:Int)) (ah x.conns),mkC (k0+(q:Int)+(u:Int)+(z:Int)+(D:Int)+(J:Int)) (aH x.place),mkC (k0+(q:Int)+(u:Int)+(z:Int)+(D:Int)+(J:Int)+(q6:Int)) (bH x.routes)] [.int .i64 x.net.inputs,.slice SA sn sc,.slice LA ln lc,.slice OA on oc,.slice BA bn bc,.slice CA cn cc,.slice PA pn pc,.slice RA rn rc]))):=Hd o4
 have aW:=Hd (qU (y:=Pc.cels [.int B,mkC (k0) (bD x.net.seqs),mkC (k0+(q:Int)) (bM x.net.luts),mkC (k0+(q:Int)+(u:Int)) (aH x.net.outs),mkC (k0+(q:Int)+(u:Int)+(z:Int)) (aa x.blocks),mkC (k0+(q:Int)+(u:Int)+(z:Int)+(D:Int)) (ah x.conns),mkC (k0+(q:Int)+(u:Int)+(z:Int)+(D:Int)+(J:Int)) (aH x.place),mkC (k0+(q:Int)+(u:Int)+(z:Int)+(D:Int)+(J:Int)+(q6:Int)) (bH x.routes)] [.int .i64 x.net.inputs,.slice SA sn sc,.slice LA ln lc,.slice OA on oc,.slice BA bn bc,.slice CA cn cc,.slice PA pn pc,.slice RA rn rc]) H.out)
 clear o4 G x7
 go_wp2_with fail
 go_ret
 exact ⟨rfl,ax.out.tail⟩
theorem aJ.lift {W v w:World} {ps:List Pc} (u:Below W.heap.size W w) (B:aJ v w ps) (q:W.heap.size<=v.heap.size):aJ W w ps:=by
 obtain ⟨_,F,j,g,z⟩:=B
 exact ⟨u,F,j,g,fun k hk=>Nat.le_trans q (z k hk)⟩
theorem aJ.rdc {W w:World} {ps:List Pc} (h:aJ W w ps) (i j:Nat) {cs:List Cel} {vs:List Value} {c:Cel} {v:Value} (hi:ps[i]?=some (.cels cs vs)) (hc:cs[j]?=some c) (u:vs[j]?=some v):RdC w w.heap.size c v:=by
 obtain ⟨F,h1,h2,h3,_⟩:=h.part i hi
 obtain ⟨q,B,g,z,_⟩:=dh.part (lo:=W.heap.size) (hi:=w.heap.size) ⟨F,h1,h2,h3⟩ hc u
 exact gI.rd ⟨q,B,g,z⟩
theorem mF {α:Type} {cells:α→List Cel} (h:∀x,dE (cells x)<=4 * (1+af (cells x))):∀xs:List α,dE (xs.flatMap cells)<=4 * (xs.length+af (xs.flatMap cells))
 | []=>by simp [dE]
 | x :: xs=>by
  have h1:=h x
  have h2:=mF h xs
  rw [List.flatMap_cons,qO,iD,List.length_cons]
  omega
theorem nC (xs:List Int):ak (aH xs)<=4 * szC (aH xs):=by rw [nZ,aH,ak,yV];omega
theorem Fb (es:List LeT):ak (cZ es)<=4 * szC (cZ es):=by
 unfold cZ
 rw [cK (cells:=LeT.cells) (s:=2) (fun _=>rfl) (by omega),ak]
 exact mF (fun x=>by simp [LeT.cells,dE,ak];omega) es
theorem FB (es:List bS):ak (bR es)<=4 * szC (bR es):=by
 unfold bR
 rw [cK (cells:=bS.cells) (s:=2) (fun _=>rfl) (by omega),ak]
 exact mF (fun x=>by simp [bS.cells,dE,ak];omega) es
theorem Fe (es:List Sq):ak (bD es)<=4 * szC (bD es):=by
 unfold bD
 rw [cK (cells:=Sq.cells) (s:=3) (fun _=>rfl) (by omega),ak]
 exact mF (fun x=>by have:=nC x.ins;simp only [Sq.cells,dE,ak,au,bP,fM] at this ⊢;omega) es
theorem Ff (es:List Lt):ak (bM es)<=4 * szC (bM es):=by
 unfold bM
 rw [cK (cells:=Lt.cells) (s:=2) (fun _=>rfl) (by omega),ak]
 exact mF (fun x=>by have:=nC x.ins;simp only [Lt.cells,dE,ak,au,bP,fM] at this ⊢;omega) es
theorem FC (es:List Blk):ak (aa es)<=4 * szC (aa es):=by
 unfold aa
 rw [cK (cells:=Blk.cells) (s:=3) (fun _=>rfl) (by omega),ak]
 exact mF (fun x=>by have:=Fb x.les;simp only [Blk.cells,dE,ak,au,bP,fM] at this ⊢;omega) es
theorem Fg (es:List Cn):ak (ah es)<=4 * szC (ah es):=by
 unfold ah
 rw [cK (cells:=Cn.cells) (s:=4) (fun _=>rfl) (by omega),ak]
 exact mF (fun x=>by have:=FB x.sinks;simp only [Cn.cells,dE,ak,au,bP,fM] at this ⊢;omega) es
theorem FD (es:List Rou):ak (bH es)<=4 * szC (bH es):=by
 unfold bH
 rw [cK (cells:=Rou.cells) (s:=2) (fun _=>rfl) (by omega),ak]
 exact mF (fun x=>by have:=nC x.nodes;have:=nC x.from_;simp only [Rou.cells,dE,au,bP] at *;omega) es
theorem FE (x:Lay):ak (bD x.net.seqs)+ak (bM x.net.luts)+ak (aH x.net.outs)+ak (aa x.blocks)+ak (ah x.conns)+ak (aH x.place)+ak (bH x.routes)<=4 * af x.cells:=by
 have h0:af x.cells=szC (bD x.net.seqs)+(szC (bM x.net.luts)+(szC (aH x.net.outs)+(szC (aa x.blocks)+(szC (ah x.conns)+(szC (aH x.place)+(szC (bH x.routes)+0)))))):=by
  unfold Lay.cells ag.cells
  simp only [List.cons_append,List.nil_append,au,bP,fM]
  omega
 have:=Fe x.net.seqs;have:=Ff x.net.luts;have:=nC x.net.outs;have:=FC x.blocks;have:=Fg x.conns;have:=nC x.place;have:=FD x.routes
 omega
abbrev FF (x:Lay):List Cel:=[.int x.net.inputs,bD x.net.seqs,bM x.net.luts,aH x.net.outs,aa x.blocks,ah x.conns,aH x.place,bH x.routes]
abbrev Bt (x:Lay) (j u z q B g D:Option Addr) (sn ln on bn cn pn rn:Nat):List Value:=[.int .i64 x.net.inputs,.slice j sn sn,.slice u ln ln,.slice z on on,.slice q bn bn,.slice B cn cn,.slice g pn pn,.slice D rn rn]
theorem pI {W w:World} {ps:List Pc} {x:Lay} {B u g z j q D:Option Addr} {sn ln on bn cn pn rn:Nat} (h:aJ W w ps) (i:Nat) (hi:ps[i]?=some (.cels (FF x) (Bt x B u g z j q D sn ln on bn cn pn rn))):lK w x B u g z j q D sn sn ln ln on on bn bn cn cn pn pn rn rn :=
 ⟨h.rdc i 1 hi rfl rfl,h.rdc i 2 hi rfl rfl,h.rdc i 3 hi rfl rfl,h.rdc i 4 hi rfl rfl,h.rdc i 5 hi rfl rfl,h.rdc i 6 hi rfl rfl,h.rdc i 7 hi rfl rfl⟩
theorem xy (x:Lay) (SA LA OA BA CA PA RA:Option Addr) (sn sc ln lc on oc bn bc cn cc pn pc rn rc:Nat) (w:World) (h:lK w x SA LA OA BA CA PA RA sn sc ln lc on oc bn bc cn cc pn pc rn rc) (G:af x.cells<=1048576) :
  Calls Tryz.prog 10 #[vR x SA LA OA BA CA PA RA sn sc ln lc on oc bn bc cn cc pn pc rn rc] w fun e w'=>∃B u g z j q D,e = .returned (vR x B u g z j q D sn sn ln ln on on bn bn cn cn pn pn rn rn)/\aJ w w' [.cels (FF x) (Bt x B u g z j q D sn ln on bn cn pn rn)] :=
 (yD SA LA OA BA CA PA RA sn sc ln lc on oc bn bc cn cc pn pc rn rc x w h.sq h.lt h.ou h.bl h.cn h.pl h.ro G).mono fun _ _ ⟨B,u,g,z,j,q,D,h1,h2,h3⟩=>⟨B,u,g,z,j,q,D,h1,(aJ.refl w).pushLs h3 h2⟩
def oh (W:World) (T:List bC) (r:Bool) (p u:Value) (w':World):Prop:=∃A n c,p = .slice A n c/\u = .bool r/\aJ W w' [.cel (dW T) (.slice A n c)]
theorem oh.drew {W w:World} {T:List bC} {r:Bool} {p u:Value} (h:oh W T r p u w):oh W T r p u w.drew:=by
 obtain ⟨A,n,c,h1,h2,h3⟩:=h
 exact ⟨A,n,c,h1,h2,h3.drew⟩
theorem DU {W v w:World} {T:List bC} {r:Bool} {A:Option Addr} {n c:Nat} (q:Below W.heap.size W w) (g:aJ v w [.cel (dW T) (.slice A n c)]) (j:W.heap.size<=v.heap.size):oh W T r (.slice A n c) (.bool r) w :=
 ⟨_,_,_,rfl,rfl,aJ.lift q g j⟩
theorem FH (d:Dev) (x:Lay):(cfgD d x).length<=36/\tsN (cfgD d x) (cfgD d x).length<=1440:=by
 by_cases hf:jB d x
 ·have j:cfgD d x=ql d x:=if_pos hf
  rw [j]
  have hk:iG d (ql d x):=(qf hf x.blocks.length (Nat.le_refl _)).1
  obtain ⟨h1,h2,h3⟩:=lD hf.place.dev
  have hl:(ql d x).length<=36:=by rw [hk.len];omega
  have D:=(oC hf.place.dev).2.2.1
  have h:=EF (ts:=ql d x) (fun i hi=>by
   have q:=hk.les i hi
   have g:=hk.sel i hi
   have u:=hk.mux i hi
   change (tAt (ql d x) i).mux.length+jU (tAt (ql d x) i).les (tAt (ql d x) i).les.length+2<=40
   have e:jU (tAt (ql d x) i).les (tAt (ql d x) i).les.length=14:=by
    generalize (tAt (ql d x) i).les=L at *
    match L,q with
    | [a,b],_ =>
     have B:=g a (by simp)
     have z:=g b (by simp)
     simp [jU,xK,B,z]
   omega) (ql d x).length (Nat.le_refl _)
  exact ⟨hl,by omega⟩
 have j:cfgD d x=[]:=if_neg hf
 rw [j]
 exact ⟨by simp,by simp [tsN]⟩
theorem DV {W w:World} {ps:List Pc} (h:aJ W w ps) (i:Nat) {A:Option Addr} {n c:Nat} {ts:List bC} {k0:Int} (hi:ps[i]?=some (.cel (dW ts) (.slice A n c))) (q:0<=k0) (j:k0<=1099511627776) (B:tsN ts ts.length<=1099511627776) :
  Calls Tryz.prog 22 #[.slice A n c,.int .i64 k0] w fun e w'=>e = .returned (.int .i64 (k0+tsN ts n))/\aJ W w' (ps.set i (.cel (dW (uO k0 ts)) (.slice A n c))):=by
 obtain ⟨F,D,u,_,z⟩:=h.part i hi
 have g:bO w (dW ts) (.slice A n c) F:=D
 exact (qm A n c ts F k0 w g u q j (by rw [←g.tlen];exact B)).mono fun e w' ⟨a,b,o⟩=>⟨a,z w' _ F b u (fun k hk => .inl hk) o⟩
end Go.Proofs.YtofihjoanjkdmaaGreat
