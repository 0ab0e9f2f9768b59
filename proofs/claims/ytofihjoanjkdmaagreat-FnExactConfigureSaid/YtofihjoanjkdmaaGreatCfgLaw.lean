/- Marking the parts of a layout that the call owns (printed by mkmk.py). -/
import Derived.Test.YtofihjoanjkdmaaGreatCfgP
import Derived.Test.YtofihjoanjkdmaaGreatLayBd
import Derived.Test.YtofihjoanjkdmaaGreatLayDM
import Derived.Test.YtofihjoanjkdmaaGreatLayTo
import Derived.Test.YtofihjoanjkdmaaGreatMkx
import Derived.Test.YtofihjoanjkdmaaGreatTileHar
namespace Go.Proofs.YtofihjoanjkdmaaGreat
set_option maxHeartbeats 2000000
set_option maxRecDepth 100000
open Go.RowKit
theorem ji {w:World} {e s n c:Nat} {A:Option Addr} {cs:List Cel} {F:List Nat} (h:bO w (.row e s cs) (.slice A n c) F):n<=9223372036854775807:=by
 rw [dV] at h
 obtain ⟨z,B,u,vs,F',q,ho,_,_⟩:=h
 injection q with _ hn _
 subst hn
 rcases ho.2 with ⟨h1,h2⟩|⟨g,j,cur,h1,_,_,h3,h4,_⟩
 ·injection h1 with _ h1 _;omega
 injection h1 with _ h1 _;unfold maxLen at h4;omega
theorem lU (A:Option Addr) (n c:Nat) (xs:List Int) (F:List Nat) (k0:Int) (w:World) (h:bO w (aH xs) (.slice A n c) F) (q:F.Nodup) (j:0<=k0) (g:k0+(ak (aH xs):Int)<=1099511627776) :
  Calls Tryz.prog 63 #[.slice A n c,.int .i64 k0] w fun e w'=>e = .returned (.int .i64 (k0+(ak (aH xs):Int)))/\bO w' (mkC k0 (aH xs)) (.slice A n c) F/\gp F w w':=by
 obtain ⟨ho,rfl⟩:=eB.1 h
 have hl:xs.length=n:=ho.len
 have hc:ak (aH xs)=n:=by rw [aH,ak,yV,hl]
 rw [hc] at g ⊢
 refine (qG 0 A n c xs k0 w ho j (by omega) (by omega)).mono ?_
 rintro e w' ⟨rfl,h1,h2⟩
 refine ⟨rfl,?_,ry h2⟩
 rw [aH,mkC,Ef,hl]
 exact eB.2 ⟨h1,rfl⟩
theorem zX (A:Option Addr) (n c:Nat) (xs:List LeT) (F:List Nat) (k0:Int) (w:World) (h:bO w (cZ xs) (.slice A n c) F) (hF:F.Nodup) (az:0<=k0) (u:k0+(ak (cZ xs):Int)<=1099511627776) :
  Calls Tryz.prog 143 #[.slice A n c,.int .i64 k0] w fun e w'=>e = .returned (.int .i64 (k0+(ak (cZ xs):Int)))/\bO w' (mkC k0 (cZ xs)) (.slice A n c) F/\gp F w w':=by
 have hl:xs.length=n:=by have h1:=gW h;unfold cZ at h1;rw [eZ (s:=2) (fun _=>rfl)] at h1;omega
 have hn:=ji h
 obtain ⟨W,V,j⟩:=hd3 hl h hF
 have q:Hid (ak (cZ xs)=dE (xs.flatMap LeT.cells)):=by show _=_;rw [cZ,ak]
 rw [q.out] at u
 have H:=Hd u
 clear h hF hl
 by_cases ah:n=0
 ·subst ah
  have hx:xs=[]:=List.eq_nil_of_length_eq_zero W.out
  subst hx
  go_enter Tryz.func143,Tryz.ntmps143
  go_wp2_with fail
  go_loopw [1,5] (fun v i wr=>v = .int .i64 k0/\i = .int .i64 0/\w=wr) (fun _ _ _=>0)
  ·exact ⟨rfl,rfl,rfl⟩
  obtain ⟨rfl,rfl,rfl⟩:=hrel
  go_wp2_with fail
  go_ret
  exact ⟨aL (by rw [q.out];simp [dE]),V.out,gp.refl _ _⟩
 obtain ⟨g,rfl,Q⟩:=lg (k0:=k0) V.out (by rw [gW V.out];omega)
 have al:=Hd Q
 clear Q V
 go_enter Tryz.func143,Tryz.ntmps143
 go_wp2_with fail
 go_loopw [1,5] (fun v i wr=>∃k:Nat,k<=n/\i = .int .i64 (k:Int)/\v = .int .i64 (k0+(dE ((xs.flatMap LeT.cells).take (k * 2)):Int))/\Mkd F 94 2 n c g k0 (xs.flatMap LeT.cells) w wr (k * 2)) (fun _ i _=>n - (intOf i).toNat)
 ·exact ⟨0,by omega,rfl,by simp [dE],by rw [Nat.zero_mul];exact al.out⟩
 obtain ⟨k,hk,rfl,rfl,hm⟩:=hrel
 have Y:=Hd hm
 clear hm
 by_cases am:k<n
 ·have B:k<xs.length:=by rw [W.out];exact am
  have G:Hid ((xs.flatMap LeT.cells)[k * 2]?=some (.int ((xs[k]?.getD LeT.zero).lut))):=dS (cells:=LeT.cells) (s:=2) (z:=LeT.zero) (r:=0) (fun _=>rfl) B (by omega)
  have aj:=eQ G.out
  have D:Hid ((xs.flatMap LeT.cells)[k * 2+1]?=some (.int ((xs[k]?.getD LeT.zero).ff))):=dS (cells:=LeT.cells) (s:=2) (z:=LeT.zero) (r:=1) (fun _=>rfl) B (by omega)
  have ae:=eQ D.out
  have ax:=jH (xs.flatMap LeT.cells) (k * 2+2)
  try simp only [ak] at aj
  try simp only [ak] at ae
  have I:(k+1) * 2=k * 2+2:=by omega
  generalize U:dE ((xs.flatMap LeT.cells).take (k * 2))=K0 at *
  generalize K:dE ((xs.flatMap LeT.cells).take (k * 2+1))=K1 at *
  generalize R:dE ((xs.flatMap LeT.cells).take (k * 2+2))=K2 at *
  have u:=H.out
  obtain ⟨ag,H,ad⟩:=hd3 U K R
  obtain ⟨i0,i1⟩:=ib (by omega:k<n)
  have J:=Hd I
  clear B I U K R
  obtain ⟨c0,f0,aA⟩:=Y.out.get j.out (by omega) G.out
  have ai:=Hd (Y.out.put j.out G.out (y:=k0+(K0:Int)) (by rw [ag.out]))
  obtain ⟨c1,f1,aw⟩:=Y.out.get j.out (by omega) D.out
  have af:=Hd (ai.out.put j.out D.out (y:=k0+(K0:Int)+1) (by rw [H.out];omega))
  go_wp2_with fail
  go_roundw
  ·exact ⟨k+1,by omega,by go_num,by rw [J.out,ad.out];congr 1;omega,by rw [J.out];exact af.out⟩
  simp [intOf];omega
 have Z:k=n:=by omega
 subst Z
 have hd:=Y.out.done (by rw [eZ (s:=2) (fun _=>rfl),W.out];exact Nat.le_refl _)
 have HD:=Hd hd
 have HV:Hid (dE ((xs.flatMap LeT.cells).take (k * 2))=ak (cZ xs)):=by show _=_;rw [q.out,List.take_of_length_le (by rw [eZ (s:=2) (fun _=>rfl),W.out];exact Nat.le_refl _)]
 rw [HV.out]
 clear hd
 go_wp2_with fail
 go_ret
 exact ⟨rfl,HD.out.1,HD.out.2⟩
theorem vG (A:Option Addr) (n c:Nat) (xs:List Blk) (F:List Nat) (k0:Int) (w:World) (h:bO w (aa xs) (.slice A n c) F) (hF:F.Nodup) (aR:0<=k0) (G:k0+(ak (aa xs):Int)<=1099511627776) :
  Calls Tryz.prog 61 #[.slice A n c,.int .i64 k0] w fun e w'=>e = .returned (.int .i64 (k0+(ak (aa xs):Int)))/\bO w' (mkC k0 (aa xs)) (.slice A n c) F/\gp F w w':=by
 have hl:xs.length=n:=by have h1:=gW h;unfold aa at h1;rw [eZ (s:=3) (fun _=>rfl)] at h1;omega
 have hn:=ji h
 obtain ⟨HL,HO,j⟩:=hd3 hl h hF
 have D:Hid (ak (aa xs)=dE (xs.flatMap Blk.cells)):=by show _=_;rw [aa,ak]
 rw [D.out] at G
 have B:=Hd G
 clear h hF hl
 by_cases aD:n=0
 ·subst aD
  have hx:xs=[]:=List.eq_nil_of_length_eq_zero HL.out
  subst hx
  go_enter Tryz.func61,Tryz.ntmps61
  go_wp2_with fail
  go_loopw [1,5] (fun v i wr=>v = .int .i64 k0/\i = .int .i64 0/\w=wr) (fun _ _ _=>0)
  ·exact ⟨rfl,rfl,rfl⟩
  obtain ⟨rfl,rfl,rfl⟩:=hrel
  go_wp2_with fail
  go_ret
  exact ⟨aL (by rw [D.out];simp [dE]),HO.out,gp.refl _ _⟩
 obtain ⟨g,rfl,W⟩:=lg (k0:=k0) HO.out (by rw [gW HO.out];omega)
 have ax:=Hd W
 clear W HO
 go_enter Tryz.func61,Tryz.ntmps61
 go_wp2_with fail
 go_loopw [1,5] (fun v i wr=>∃k:Nat,k<=n/\i = .int .i64 (k:Int)/\v = .int .i64 (k0+(dE ((xs.flatMap Blk.cells).take (k * 3)):Int))/\Mkd F 89 3 n c g k0 (xs.flatMap Blk.cells) w wr (k * 3)) (fun _ i _=>n - (intOf i).toNat)
 ·exact ⟨0,by omega,rfl,by simp [dE],by rw [Nat.zero_mul];exact ax.out⟩
 obtain ⟨k,hk,rfl,rfl,hm⟩:=hrel
 have HM:=Hd hm
 clear hm
 by_cases aG:k<n
 ·have q:k<xs.length:=by rw [HL.out];exact aG
  have I:Hid ((xs.flatMap Blk.cells)[k * 3]?=some (.int ((xs[k]?.getD Blk.zero).kind))):=dS (cells:=Blk.cells) (s:=3) (z:=Blk.zero) (r:=0) (fun _=>rfl) q (by omega)
  have aw:=eQ I.out
  have H:Hid ((xs.flatMap Blk.cells)[k * 3+1]?=some (.int ((xs[k]?.getD Blk.zero).item))):=dS (cells:=Blk.cells) (s:=3) (z:=Blk.zero) (r:=1) (fun _=>rfl) q (by omega)
  have au:=eQ H.out
  have Q:Hid ((xs.flatMap Blk.cells)[k * 3+2]?=some (cZ (xs[k]?.getD Blk.zero).les)):=dS (cells:=Blk.cells) (s:=3) (z:=Blk.zero) (r:=2) (fun _=>rfl) q (by omega)
  have aZ:=eQ Q.out
  have aU:=jH (xs.flatMap Blk.cells) (k * 3+3)
  try simp only [ak] at aw
  try simp only [ak] at au
  have Z:(k+1) * 3=k * 3+3:=by omega
  generalize U:dE ((xs.flatMap Blk.cells).take (k * 3))=K0 at *
  generalize ai:dE ((xs.flatMap Blk.cells).take (k * 3+1))=K1 at *
  generalize R:dE ((xs.flatMap Blk.cells).take (k * 3+2))=K2 at *
  generalize ah:dE ((xs.flatMap Blk.cells).take (k * 3+3))=K3 at *
  generalize V:ak (cZ (xs[k]?.getD Blk.zero).les)=q2 at *
  have G:=B.out
  obtain ⟨aF,B,az,aB,am⟩:=hd5 U ai R ah V
  obtain ⟨i0,i1⟩:=ib (by omega:k<n)
  have K:=Hd Z
  clear q Z U ai R ah V
  obtain ⟨c0,f0,ay⟩:=HM.out.get j.out (by omega) I.out
  have aE:=Hd (HM.out.put j.out I.out (y:=k0+(K0:Int)) (by rw [aF.out]))
  obtain ⟨c1,f1,av⟩:=HM.out.get j.out (by omega) H.out
  have aC:=Hd (aE.out.put j.out H.out (y:=k0+(K0:Int)+1) (by rw [B.out];omega))
  obtain ⟨S2,m2,p2,G2,Y,ag,ad,aj,ae⟩:=aC.out.row j.out Q.out
  rw [lZ (by omega),lZ (by omega)] at Y
  simp only [World.size_setCell] at ag
  obtain ⟨J,al,u⟩:=hd3 ad ae aj
  clear ad ae aj
  have af:=ji J.out
  go_wp2_with fail
  refine (zX S2 m2 p2 _ G2 _ _ J.out u.out (by omega) (by rw [am.out];omega)).mono ?_
  rw [am.out]
  rintro _ w1 ⟨rfl,o1,g1⟩
  have aA:=Hd (al.out _ w1 (by rw [az.out];omega) o1 g1)
  clear o1 g1 J al u af c0 f0 ay c1 f1 av Y ag
  go_wp2_with fail
  go_roundw
  ·exact ⟨k+1,by omega,by go_num,by rw [K.out,aB.out];congr 1;omega,by rw [K.out];exact aA.out⟩
  simp [intOf];omega
 have ar:k=n:=by omega
 subst ar
 have hd:=HM.out.done (by rw [eZ (s:=3) (fun _=>rfl),HL.out];exact Nat.le_refl _)
 have HD:=Hd hd
 have HV:Hid (dE ((xs.flatMap Blk.cells).take (k * 3))=ak (aa xs)):=by show _=_;rw [D.out,List.take_of_length_le (by rw [eZ (s:=3) (fun _=>rfl),HL.out];exact Nat.le_refl _)]
 rw [HV.out]
 clear hd
 go_wp2_with fail
 go_ret
 exact ⟨rfl,HD.out.1,HD.out.2⟩
theorem xu (A:Option Addr) (n c:Nat) (xs:List bS) (F:List Nat) (k0:Int) (w:World) (h:bO w (bR xs) (.slice A n c) F) (hF:F.Nodup) (az:0<=k0) (u:k0+(ak (bR xs):Int)<=1099511627776) :
  Calls Tryz.prog 144 #[.slice A n c,.int .i64 k0] w fun e w'=>e = .returned (.int .i64 (k0+(ak (bR xs):Int)))/\bO w' (mkC k0 (bR xs)) (.slice A n c) F/\gp F w w':=by
 have hl:xs.length=n:=by have h1:=gW h;unfold bR at h1;rw [eZ (s:=2) (fun _=>rfl)] at h1;omega
 have hn:=ji h
 obtain ⟨W,V,j⟩:=hd3 hl h hF
 have q:Hid (ak (bR xs)=dE (xs.flatMap bS.cells)):=by show _=_;rw [bR,ak]
 rw [q.out] at u
 have H:=Hd u
 clear h hF hl
 by_cases ah:n=0
 ·subst ah
  have hx:xs=[]:=List.eq_nil_of_length_eq_zero W.out
  subst hx
  go_enter Tryz.func144,Tryz.ntmps144
  go_wp2_with fail
  go_loopw [1,5] (fun v i wr=>v = .int .i64 k0/\i = .int .i64 0/\w=wr) (fun _ _ _=>0)
  ·exact ⟨rfl,rfl,rfl⟩
  obtain ⟨rfl,rfl,rfl⟩:=hrel
  go_wp2_with fail
  go_ret
  exact ⟨aL (by rw [q.out];simp [dE]),V.out,gp.refl _ _⟩
 obtain ⟨g,rfl,Q⟩:=lg (k0:=k0) V.out (by rw [gW V.out];omega)
 have al:=Hd Q
 clear Q V
 go_enter Tryz.func144,Tryz.ntmps144
 go_wp2_with fail
 go_loopw [1,5] (fun v i wr=>∃k:Nat,k<=n/\i = .int .i64 (k:Int)/\v = .int .i64 (k0+(dE ((xs.flatMap bS.cells).take (k * 2)):Int))/\Mkd F 100 2 n c g k0 (xs.flatMap bS.cells) w wr (k * 2)) (fun _ i _=>n - (intOf i).toNat)
 ·exact ⟨0,by omega,rfl,by simp [dE],by rw [Nat.zero_mul];exact al.out⟩
 obtain ⟨k,hk,rfl,rfl,hm⟩:=hrel
 have Y:=Hd hm
 clear hm
 by_cases am:k<n
 ·have B:k<xs.length:=by rw [W.out];exact am
  have G:Hid ((xs.flatMap bS.cells)[k * 2]?=some (.int ((xs[k]?.getD bS.zero).block))):=dS (cells:=bS.cells) (s:=2) (z:=bS.zero) (r:=0) (fun _=>rfl) B (by omega)
  have aj:=eQ G.out
  have D:Hid ((xs.flatMap bS.cells)[k * 2+1]?=some (.int ((xs[k]?.getD bS.zero).pin))):=dS (cells:=bS.cells) (s:=2) (z:=bS.zero) (r:=1) (fun _=>rfl) B (by omega)
  have ae:=eQ D.out
  have ax:=jH (xs.flatMap bS.cells) (k * 2+2)
  try simp only [ak] at aj
  try simp only [ak] at ae
  have I:(k+1) * 2=k * 2+2:=by omega
  generalize U:dE ((xs.flatMap bS.cells).take (k * 2))=K0 at *
  generalize K:dE ((xs.flatMap bS.cells).take (k * 2+1))=K1 at *
  generalize R:dE ((xs.flatMap bS.cells).take (k * 2+2))=K2 at *
  have u:=H.out
  obtain ⟨ag,H,ad⟩:=hd3 U K R
  obtain ⟨i0,i1⟩:=ib (by omega:k<n)
  have J:=Hd I
  clear B I U K R
  obtain ⟨c0,f0,aA⟩:=Y.out.get j.out (by omega) G.out
  have ai:=Hd (Y.out.put j.out G.out (y:=k0+(K0:Int)) (by rw [ag.out]))
  obtain ⟨c1,f1,aw⟩:=Y.out.get j.out (by omega) D.out
  have af:=Hd (ai.out.put j.out D.out (y:=k0+(K0:Int)+1) (by rw [H.out];omega))
  go_wp2_with fail
  go_roundw
  ·exact ⟨k+1,by omega,by go_num,by rw [J.out,ad.out];congr 1;omega,by rw [J.out];exact af.out⟩
  simp [intOf];omega
 have Z:k=n:=by omega
 subst Z
 have hd:=Y.out.done (by rw [eZ (s:=2) (fun _=>rfl),W.out];exact Nat.le_refl _)
 have HD:=Hd hd
 have HV:Hid (dE ((xs.flatMap bS.cells).take (k * 2))=ak (bR xs)):=by show _=_;rw [q.out,List.take_of_length_le (by rw [eZ (s:=2) (fun _=>rfl),W.out];exact Nat.le_refl _)]
 rw [HV.out]
 clear hd
 go_wp2_with fail
 go_ret
 exact ⟨rfl,HD.out.1,HD.out.2⟩
theorem wD (A:Option Addr) (n c:Nat) (xs:List Cn) (F:List Nat) (k0:Int) (w:World) (h:bO w (ah xs) (.slice A n c) F) (hF:F.Nodup) (aY:0<=k0) (I:k0+(ak (ah xs):Int)<=1099511627776) :
  Calls Tryz.prog 62 #[.slice A n c,.int .i64 k0] w fun e w'=>e = .returned (.int .i64 (k0+(ak (ah xs):Int)))/\bO w' (mkC k0 (ah xs)) (.slice A n c) F/\gp F w w':=by
 have hl:xs.length=n:=by have h1:=gW h;unfold ah at h1;rw [eZ (s:=4) (fun _=>rfl)] at h1;omega
 have hn:=ji h
 obtain ⟨HL,HO,j⟩:=hd3 hl h hF
 have H:Hid (ak (ah xs)=dE (xs.flatMap Cn.cells)):=by show _=_;rw [ah,ak]
 rw [H.out] at I
 have D:=Hd I
 clear h hF hl
 by_cases aH:n=0
 ·subst aH
  have hx:xs=[]:=List.eq_nil_of_length_eq_zero HL.out
  subst hx
  go_enter Tryz.func62,Tryz.ntmps62
  go_wp2_with fail
  go_loopw [1,5] (fun v i wr=>v = .int .i64 k0/\i = .int .i64 0/\w=wr) (fun _ _ _=>0)
  ·exact ⟨rfl,rfl,rfl⟩
  obtain ⟨rfl,rfl,rfl⟩:=hrel
  go_wp2_with fail
  go_ret
  exact ⟨aL (by rw [H.out];simp [dE]),HO.out,gp.refl _ _⟩
 obtain ⟨g,rfl,Z⟩:=lg (k0:=k0) HO.out (by rw [gW HO.out];omega)
 have aB:=Hd Z
 clear Z HO
 go_enter Tryz.func62,Tryz.ntmps62
 go_wp2_with fail
 go_loopw [1,5] (fun v i wr=>∃k:Nat,k<=n/\i = .int .i64 (k:Int)/\v = .int .i64 (k0+(dE ((xs.flatMap Cn.cells).take (k * 4)):Int))/\Mkd F 158 4 n c g k0 (xs.flatMap Cn.cells) w wr (k * 4)) (fun _ i _=>n - (intOf i).toNat)
 ·exact ⟨0,by omega,rfl,by simp [dE],by rw [Nat.zero_mul];exact aB.out⟩
 obtain ⟨k,hk,rfl,rfl,hm⟩:=hrel
 have Y:=Hd hm
 clear hm
 by_cases aP:k<n
 ·have q:k<xs.length:=by rw [HL.out];exact aP
  have K:Hid ((xs.flatMap Cn.cells)[k * 4]?=some (.int ((xs[k]?.getD Cn.zero).node))):=dS (cells:=Cn.cells) (s:=4) (z:=Cn.zero) (r:=0) (fun _=>rfl) q (by omega)
  have aA:=eQ K.out
  have J:Hid ((xs.flatMap Cn.cells)[k * 4+1]?=some (.int ((xs[k]?.getD Cn.zero).src.block))):=dS (cells:=Cn.cells) (s:=4) (z:=Cn.zero) (r:=1) (fun _=>rfl) q (by omega)
  have ax:=eQ J.out
  have B:Hid ((xs.flatMap Cn.cells)[k * 4+2]?=some (.int ((xs[k]?.getD Cn.zero).src.pin))):=dS (cells:=Cn.cells) (s:=4) (z:=Cn.zero) (r:=2) (fun _=>rfl) q (by omega)
  have aN:=eQ B.out
  have ar:Hid ((xs.flatMap Cn.cells)[k * 4+3]?=some (bR (xs[k]?.getD Cn.zero).sinks)):=dS (cells:=Cn.cells) (s:=4) (z:=Cn.zero) (r:=3) (fun _=>rfl) q (by omega)
  have a7:=eQ ar.out
  have a1:=jH (xs.flatMap Cn.cells) (k * 4+4)
  try simp only [ak] at aA
  try simp only [ak] at ax
  try simp only [ak] at aN
  have ae:(k+1) * 4=k * 4+4:=by omega
  generalize W:dE ((xs.flatMap Cn.cells).take (k * 4))=K0 at *
  generalize aj:dE ((xs.flatMap Cn.cells).take (k * 4+1))=K1 at *
  generalize V:dE ((xs.flatMap Cn.cells).take (k * 4+2))=K2 at *
  generalize al:dE ((xs.flatMap Cn.cells).take (k * 4+3))=K3 at *
  generalize am:dE ((xs.flatMap Cn.cells).take (k * 4+4))=K4 at *
  generalize ap:ak (bR (xs[k]?.getD Cn.zero).sinks)=q3 at *
  have I:=D.out
  obtain ⟨aO,D,aD,aF,az,ai⟩:=hd6 W aj V al am ap
  obtain ⟨i0,i1⟩:=ib (by omega:k<n)
  have Q:=Hd ae
  clear q ae W aj V al am ap
  obtain ⟨c0,f0,aC⟩:=Y.out.get j.out (by omega) K.out
  have aK:=Hd (Y.out.put j.out K.out (y:=k0+(K0:Int)) (by rw [aO.out]))
  obtain ⟨c1,f1,ay⟩:=Y.out.get j.out (by omega) J.out
  have aG:=Hd (aK.out.put j.out J.out (y:=k0+(K0:Int)+1) (by rw [D.out];omega))
  obtain ⟨c2,f2,aJ⟩:=Y.out.get j.out (by omega) B.out
  have aE:=Hd (aG.out.put j.out B.out (y:=k0+(K0:Int)+1+1) (by rw [aD.out];omega))
  obtain ⟨S3,m3,p3,G3,U,R,aq,ag,ad⟩:=aE.out.row j.out ar.out
  rw [lZ (by omega),lZ (by omega),lZ (by omega)] at U
  simp only [World.size_setCell] at R
  obtain ⟨G,ao,u⟩:=hd3 aq ad ag
  clear aq ad ag
  have af:=ji G.out
  go_wp2_with fail
  refine (xu S3 m3 p3 _ G3 _ _ G.out u.out (by omega) (by rw [ai.out];omega)).mono ?_
  rw [ai.out]
  rintro _ w1 ⟨rfl,o1,g1⟩
  have aI:=Hd (ao.out _ w1 (by rw [aF.out];omega) o1 g1)
  clear o1 g1 G ao u af c0 f0 aC c1 f1 ay c2 f2 aJ U R
  go_wp2_with fail
  go_roundw
  ·exact ⟨k+1,by omega,by go_num,by rw [Q.out,az.out];congr 1;omega,by rw [Q.out];exact aI.out⟩
  simp [intOf];omega
 have aw:k=n:=by omega
 subst aw
 have hd:=Y.out.done (by rw [eZ (s:=4) (fun _=>rfl),HL.out];exact Nat.le_refl _)
 have HD:=Hd hd
 have HV:Hid (dE ((xs.flatMap Cn.cells).take (k * 4))=ak (ah xs)):=by show _=_;rw [H.out,List.take_of_length_le (by rw [eZ (s:=4) (fun _=>rfl),HL.out];exact Nat.le_refl _)]
 rw [HV.out]
 clear hd
 go_wp2_with fail
 go_ret
 exact ⟨rfl,HD.out.1,HD.out.2⟩
theorem vH (A:Option Addr) (n c:Nat) (xs:List Rou) (F:List Nat) (k0:Int) (w:World) (h:bO w (bH xs) (.slice A n c) F) (hF:F.Nodup) (aX:0<=k0) (I:k0+(ak (bH xs):Int)<=1099511627776) :
  Calls Tryz.prog 64 #[.slice A n c,.int .i64 k0] w fun e w'=>e = .returned (.int .i64 (k0+(ak (bH xs):Int)))/\bO w' (mkC k0 (bH xs)) (.slice A n c) F/\gp F w w':=by
 have hl:xs.length=n:=by have h1:=gW h;unfold bH at h1;rw [eZ (s:=2) (fun _=>rfl)] at h1;omega
 have hn:=ji h
 obtain ⟨HL,HO,Q⟩:=hd3 hl h hF
 have G:Hid (ak (bH xs)=dE (xs.flatMap Rou.cells)):=by show _=_;rw [bH,ak]
 rw [G.out] at I
 have B:=Hd I
 clear h hF hl
 by_cases j:n=0
 ·subst j
  have hx:xs=[]:=List.eq_nil_of_length_eq_zero HL.out
  subst hx
  go_enter Tryz.func64,Tryz.ntmps64
  go_wp2_with fail
  go_loopw [1,5] (fun v i wr=>v = .int .i64 k0/\i = .int .i64 0/\w=wr) (fun _ _ _=>0)
  ·exact ⟨rfl,rfl,rfl⟩
  obtain ⟨rfl,rfl,rfl⟩:=hrel
  go_wp2_with fail
  go_ret
  exact ⟨aL (by rw [G.out];simp [dE]),HO.out,gp.refl _ _⟩
 obtain ⟨g,rfl,Z⟩:=lg (k0:=k0) HO.out (by rw [gW HO.out];omega)
 have az:=Hd Z
 clear Z HO
 go_enter Tryz.func64,Tryz.ntmps64
 go_wp2_with fail
 go_loopw [1,5] (fun v i wr=>∃k:Nat,k<=n/\i = .int .i64 (k:Int)/\v = .int .i64 (k0+(dE ((xs.flatMap Rou.cells).take (k * 2)):Int))/\Mkd F 114 2 n c g k0 (xs.flatMap Rou.cells) w wr (k * 2)) (fun _ i _=>n - (intOf i).toNat)
 ·exact ⟨0,by omega,rfl,by simp [dE],by rw [Nat.zero_mul];exact az.out⟩
 obtain ⟨k,hk,rfl,rfl,hm⟩:=hrel
 have HM:=Hd hm
 clear hm
 by_cases aI:k<n
 ·have J:k<xs.length:=by rw [HL.out];exact aI
  have ao:Hid ((xs.flatMap Rou.cells)[k * 2]?=some (aH (xs[k]?.getD Rou.zero).nodes)):=dS (cells:=Rou.cells) (s:=2) (z:=Rou.zero) (r:=0) (fun _=>rfl) J (by omega)
  have aW:=eQ ao.out
  have al:Hid ((xs.flatMap Rou.cells)[k * 2+1]?=some (aH (xs[k]?.getD Rou.zero).from_)):=dS (cells:=Rou.cells) (s:=2) (z:=Rou.zero) (r:=1) (fun _=>rfl) J (by omega)
  have aT:=eQ al.out
  have a1:=jH (xs.flatMap Rou.cells) (k * 2+2)
  have ad:(k+1) * 2=k * 2+2:=by omega
  generalize U:dE ((xs.flatMap Rou.cells).take (k * 2))=K0 at *
  generalize ag:dE ((xs.flatMap Rou.cells).take (k * 2+1))=K1 at *
  generalize R:dE ((xs.flatMap Rou.cells).take (k * 2+2))=K2 at *
  generalize af:ak (aH (xs[k]?.getD Rou.zero).nodes)=q0 at *
  generalize W:ak (aH (xs[k]?.getD Rou.zero).from_)=q1 at *
  have I:=B.out
  obtain ⟨aE,B,aB,ar,V⟩:=hd5 U ag R af W
  obtain ⟨i0,i1⟩:=ib (by omega:k<n)
  have K:=Hd ad
  clear J ad U ag R af W
  obtain ⟨S0,m0,p0,G0,aF,aA,au,j,ah⟩:=HM.out.row Q.out ao.out
  obtain ⟨D,ap,q⟩:=hd3 au ah j
  clear au ah j
  have aq:=ji D.out
  go_wp2_with fail
  refine (lU S0 m0 p0 _ G0 _ _ D.out q.out (by omega) (by rw [ar.out];omega)).mono ?_
  rw [ar.out]
  rintro _ w1 ⟨rfl,o1,g1⟩
  have aD:=Hd (ap.out _ w1 (by rw [aE.out]) o1 g1)
  clear o1 g1 D ap q aq aF aA
  obtain ⟨S1,m1,p1,G1,aG,ay,aj,ae,ai⟩:=aD.out.row Q.out al.out
  obtain ⟨H,am,u⟩:=hd3 aj ai ae
  clear aj ai ae
  have Y:=ji H.out
  go_wp2_with fail
  refine (lU S1 m1 p1 _ G1 _ _ H.out u.out (by omega) (by rw [V.out];omega)).mono ?_
  rw [V.out]
  rintro _ w2 ⟨rfl,o2,g2⟩
  have aC:=Hd (am.out _ w2 (by rw [B.out];omega) o2 g2)
  clear o2 g2 H am u Y aG ay
  go_wp2_with fail
  go_roundw
  ·exact ⟨k+1,by omega,by go_num,by rw [K.out,aB.out];congr 1;omega,by rw [K.out];exact aC.out⟩
  simp [intOf];omega
 have ax:k=n:=by omega
 subst ax
 have hd:=HM.out.done (by rw [eZ (s:=2) (fun _=>rfl),HL.out];exact Nat.le_refl _)
 have HD:=Hd hd
 have HV:Hid (dE ((xs.flatMap Rou.cells).take (k * 2))=ak (bH xs)):=by show _=_;rw [G.out,List.take_of_length_le (by rw [eZ (s:=2) (fun _=>rfl),HL.out];exact Nat.le_refl _)]
 rw [HV.out]
 clear hd
 go_wp2_with fail
 go_ret
 exact ⟨rfl,HD.out.1,HD.out.2⟩
theorem xw (A:Option Addr) (n c:Nat) (xs:List Lt) (F:List Nat) (k0:Int) (w:World) (h:bO w (bM xs) (.slice A n c) F) (hF:F.Nodup) (aK:0<=k0) (H:k0+(ak (bM xs):Int)<=1099511627776) :
  Calls Tryz.prog 102 #[.slice A n c,.int .i64 k0] w fun e w'=>e = .returned (.int .i64 (k0+(ak (bM xs):Int)))/\bO w' (mkC k0 (bM xs)) (.slice A n c) F/\gp F w w':=by
 have hl:xs.length=n:=by have h1:=gW h;unfold bM at h1;rw [eZ (s:=2) (fun _=>rfl)] at h1;omega
 have hn:=ji h
 obtain ⟨HL,HO,u⟩:=hd3 hl h hF
 have G:Hid (ak (bM xs)=dE (xs.flatMap Lt.cells)):=by show _=_;rw [bM,ak]
 rw [G.out] at H
 have B:=Hd H
 clear h hF hl
 by_cases j:n=0
 ·subst j
  have hx:xs=[]:=List.eq_nil_of_length_eq_zero HL.out
  subst hx
  go_enter Tryz.func102,Tryz.ntmps102
  go_wp2_with fail
  go_loopw [1,5] (fun v i wr=>v = .int .i64 k0/\i = .int .i64 0/\w=wr) (fun _ _ _=>0)
  ·exact ⟨rfl,rfl,rfl⟩
  obtain ⟨rfl,rfl,rfl⟩:=hrel
  go_wp2_with fail
  go_ret
  exact ⟨aL (by rw [G.out];simp [dE]),HO.out,gp.refl _ _⟩
 obtain ⟨g,rfl,U⟩:=lg (k0:=k0) HO.out (by rw [gW HO.out];omega)
 have ap:=Hd U
 clear U HO
 go_enter Tryz.func102,Tryz.ntmps102
 go_wp2_with fail
 go_loopw [1,5] (fun v i wr=>∃k:Nat,k<=n/\i = .int .i64 (k:Int)/\v = .int .i64 (k0+(dE ((xs.flatMap Lt.cells).take (k * 2)):Int))/\Mkd F 96 2 n c g k0 (xs.flatMap Lt.cells) w wr (k * 2)) (fun _ i _=>n - (intOf i).toNat)
 ·exact ⟨0,by omega,rfl,by simp [dE],by rw [Nat.zero_mul];exact ap.out⟩
 obtain ⟨k,hk,rfl,rfl,hm⟩:=hrel
 have HM:=Hd hm
 clear hm
 by_cases ax:k<n
 ·have I:k<xs.length:=by rw [HL.out];exact ax
  have ae:Hid ((xs.flatMap Lt.cells)[k * 2]?=some (aH (xs[k]?.getD Lt.zero).ins)):=dS (cells:=Lt.cells) (s:=2) (z:=Lt.zero) (r:=0) (fun _=>rfl) I (by omega)
  have aJ:=eQ ae.out
  have J:Hid ((xs.flatMap Lt.cells)[k * 2+1]?=some (.int ((xs[k]?.getD Lt.zero).mask))):=dS (cells:=Lt.cells) (s:=2) (z:=Lt.zero) (r:=1) (fun _=>rfl) I (by omega)
  have ao:=eQ J.out
  have aP:=jH (xs.flatMap Lt.cells) (k * 2+2)
  try simp only [ak] at ao
  have V:(k+1) * 2=k * 2+2:=by omega
  generalize R:dE ((xs.flatMap Lt.cells).take (k * 2))=K0 at *
  generalize Y:dE ((xs.flatMap Lt.cells).take (k * 2+1))=K1 at *
  generalize Q:dE ((xs.flatMap Lt.cells).take (k * 2+2))=K2 at *
  generalize W:ak (aH (xs[k]?.getD Lt.zero).ins)=q0 at *
  have H:=B.out
  obtain ⟨av,B,ar,ah⟩:=hd4 R Y Q W
  obtain ⟨i0,i1⟩:=ib (by omega:k<n)
  have K:=Hd V
  clear I V R Y Q W
  obtain ⟨S0,m0,p0,G0,aw,aq,ai,j,ad⟩:=HM.out.row u.out ae.out
  obtain ⟨D,af,q⟩:=hd3 ai ad j
  clear ai ad j
  have ag:=ji D.out
  go_wp2_with fail
  refine (lU S0 m0 p0 _ G0 _ _ D.out q.out (by omega) (by rw [ah.out];omega)).mono ?_
  rw [ah.out]
  rintro _ w1 ⟨rfl,o1,g1⟩
  have Z:=Hd (af.out _ w1 (by rw [av.out]) o1 g1)
  clear o1 g1 D af q ag aw aq
  obtain ⟨c1,f1,aG⟩:=Z.out.get u.out (by omega) J.out
  have au:=Hd (Z.out.put u.out J.out (y:=k0+(K0:Int)+(q0:Int)) (by rw [B.out];omega))
  go_wp2_with fail
  go_roundw
  ·exact ⟨k+1,by omega,by go_num,by rw [K.out,ar.out];congr 1;omega,by rw [K.out];exact au.out⟩
  simp [intOf];omega
 have am:k=n:=by omega
 subst am
 have hd:=HM.out.done (by rw [eZ (s:=2) (fun _=>rfl),HL.out];exact Nat.le_refl _)
 have HD:=Hd hd
 have HV:Hid (dE ((xs.flatMap Lt.cells).take (k * 2))=ak (bM xs)):=by show _=_;rw [G.out,List.take_of_length_le (by rw [eZ (s:=2) (fun _=>rfl),HL.out];exact Nat.le_refl _)]
 rw [HV.out]
 clear hd
 go_wp2_with fail
 go_ret
 exact ⟨rfl,HD.out.1,HD.out.2⟩
theorem xx (A:Option Addr) (n c:Nat) (xs:List Sq) (F:List Nat) (k0:Int) (w:World) (h:bO w (bD xs) (.slice A n c) F) (hF:F.Nodup) (aS:0<=k0) (G:k0+(ak (bD xs):Int)<=1099511627776) :
  Calls Tryz.prog 101 #[.slice A n c,.int .i64 k0] w fun e w'=>e = .returned (.int .i64 (k0+(ak (bD xs):Int)))/\bO w' (mkC k0 (bD xs)) (.slice A n c) F/\gp F w w':=by
 have hl:xs.length=n:=by have h1:=gW h;unfold bD at h1;rw [eZ (s:=3) (fun _=>rfl)] at h1;omega
 have hn:=ji h
 obtain ⟨HL,HO,j⟩:=hd3 hl h hF
 have D:Hid (ak (bD xs)=dE (xs.flatMap Sq.cells)):=by show _=_;rw [bD,ak]
 rw [D.out] at G
 have B:=Hd G
 clear h hF hl
 by_cases aD:n=0
 ·subst aD
  have hx:xs=[]:=List.eq_nil_of_length_eq_zero HL.out
  subst hx
  go_enter Tryz.func101,Tryz.ntmps101
  go_wp2_with fail
  go_loopw [1,5] (fun v i wr=>v = .int .i64 k0/\i = .int .i64 0/\w=wr) (fun _ _ _=>0)
  ·exact ⟨rfl,rfl,rfl⟩
  obtain ⟨rfl,rfl,rfl⟩:=hrel
  go_wp2_with fail
  go_ret
  exact ⟨aL (by rw [D.out];simp [dE]),HO.out,gp.refl _ _⟩
 obtain ⟨g,rfl,W⟩:=lg (k0:=k0) HO.out (by rw [gW HO.out];omega)
 have ax:=Hd W
 clear W HO
 go_enter Tryz.func101,Tryz.ntmps101
 go_wp2_with fail
 go_loopw [1,5] (fun v i wr=>∃k:Nat,k<=n/\i = .int .i64 (k:Int)/\v = .int .i64 (k0+(dE ((xs.flatMap Sq.cells).take (k * 3)):Int))/\Mkd F 91 3 n c g k0 (xs.flatMap Sq.cells) w wr (k * 3)) (fun _ i _=>n - (intOf i).toNat)
 ·exact ⟨0,by omega,rfl,by simp [dE],by rw [Nat.zero_mul];exact ax.out⟩
 obtain ⟨k,hk,rfl,rfl,hm⟩:=hrel
 have HM:=Hd hm
 clear hm
 by_cases aG:k<n
 ·have q:k<xs.length:=by rw [HL.out];exact aG
  have I:Hid ((xs.flatMap Sq.cells)[k * 3]?=some (.int ((xs[k]?.getD Sq.zero).kind))):=dS (cells:=Sq.cells) (s:=3) (z:=Sq.zero) (r:=0) (fun _=>rfl) q (by omega)
  have aw:=eQ I.out
  have H:Hid ((xs.flatMap Sq.cells)[k * 3+1]?=some (.int ((xs[k]?.getD Sq.zero).init))):=dS (cells:=Sq.cells) (s:=3) (z:=Sq.zero) (r:=1) (fun _=>rfl) q (by omega)
  have au:=eQ H.out
  have Q:Hid ((xs.flatMap Sq.cells)[k * 3+2]?=some (aH (xs[k]?.getD Sq.zero).ins)):=dS (cells:=Sq.cells) (s:=3) (z:=Sq.zero) (r:=2) (fun _=>rfl) q (by omega)
  have a0:=eQ Q.out
  have aV:=jH (xs.flatMap Sq.cells) (k * 3+3)
  try simp only [ak] at aw
  try simp only [ak] at au
  have Z:(k+1) * 3=k * 3+3:=by omega
  generalize U:dE ((xs.flatMap Sq.cells).take (k * 3))=K0 at *
  generalize ai:dE ((xs.flatMap Sq.cells).take (k * 3+1))=K1 at *
  generalize R:dE ((xs.flatMap Sq.cells).take (k * 3+2))=K2 at *
  generalize ah:dE ((xs.flatMap Sq.cells).take (k * 3+3))=K3 at *
  generalize V:ak (aH (xs[k]?.getD Sq.zero).ins)=q2 at *
  have G:=B.out
  obtain ⟨aF,B,az,aB,am⟩:=hd5 U ai R ah V
  obtain ⟨i0,i1⟩:=ib (by omega:k<n)
  have K:=Hd Z
  clear q Z U ai R ah V
  obtain ⟨c0,f0,ay⟩:=HM.out.get j.out (by omega) I.out
  have aE:=Hd (HM.out.put j.out I.out (y:=k0+(K0:Int)) (by rw [aF.out]))
  obtain ⟨c1,f1,av⟩:=HM.out.get j.out (by omega) H.out
  have aC:=Hd (aE.out.put j.out H.out (y:=k0+(K0:Int)+1) (by rw [B.out];omega))
  obtain ⟨S2,m2,p2,G2,Y,ag,ad,aj,ae⟩:=aC.out.row j.out Q.out
  rw [lZ (by omega),lZ (by omega)] at Y
  simp only [World.size_setCell] at ag
  obtain ⟨J,al,u⟩:=hd3 ad ae aj
  clear ad ae aj
  have af:=ji J.out
  go_wp2_with fail
  refine (lU S2 m2 p2 _ G2 _ _ J.out u.out (by omega) (by rw [am.out];omega)).mono ?_
  rw [am.out]
  rintro _ w1 ⟨rfl,o1,g1⟩
  have aA:=Hd (al.out _ w1 (by rw [az.out];omega) o1 g1)
  clear o1 g1 J al u af c0 f0 ay c1 f1 av Y ag
  go_wp2_with fail
  go_roundw
  ·exact ⟨k+1,by omega,by go_num,by rw [K.out,aB.out];congr 1;omega,by rw [K.out];exact aA.out⟩
  simp [intOf];omega
 have ar:k=n:=by omega
 subst ar
 have hd:=HM.out.done (by rw [eZ (s:=3) (fun _=>rfl),HL.out];exact Nat.le_refl _)
 have HD:=Hd hd
 have HV:Hid (dE ((xs.flatMap Sq.cells).take (k * 3))=ak (bD xs)):=by show _=_;rw [D.out,List.take_of_length_le (by rw [eZ (s:=3) (fun _=>rfl),HL.out];exact Nat.le_refl _)]
 rw [HV.out]
 clear hd
 go_wp2_with fail
 go_ret
 exact ⟨rfl,HD.out.1,HD.out.2⟩
theorem p8 {P:Program} {f:FuncId} {i j n p:Nat} {W w:World} {ps:List Pc} {cs:List Cel} {vs:List Value} {c:Cel} {A:Option Addr} {k0:Int} (h:aJ W w ps) (hi:ps[i]?=some (.cels cs vs)) (hc:cs[j]?=some c) (G:vs[j]?=some (.slice A n p))
  (hf:∀F,bO w c (.slice A n p) F→F.Nodup→Calls P f #[.slice A n p,.int .i64 k0] w fun e w'=>e = .returned (.int .i64 (k0+(ak c:Int)))/\bO w' (mkC k0 c) (.slice A n p) F/\gp F w w') :
  Calls P f #[.slice A n p,.int .i64 k0] w fun e w'=>e = .returned (.int .i64 (k0+(ak c:Int)))/\aJ W w' (ps.set i (.cels (cs.set j (mkC k0 c)) vs)):=by
 obtain ⟨F,h1,h2,h3,h4⟩:=h.part i hi
 have g:fB w cs vs F:=h1
 obtain ⟨R,V,U,H,F2,e1,e2,rfl,h5,J⟩:=g.at_ (List.getElem?_eq_some_iff.1 hc).1
 rw [hc] at e1
 rw [G] at e2
 injection e1 with e1
 injection e2 with e2
 subst e1 e2
 have B:=h2
 rw [List.nodup_append,List.nodup_append] at h2
 obtain ⟨n1,⟨n2,n3,K⟩,I⟩:=h2
 have q:=g.lt
 refine (hf H h5 n2).mono ?_
 rintro e w' ⟨rfl,Q,u⟩
 have D:=J w' _ _ H Q (fun k hk=>u.block k (q k (by simp [hk])) fun z=>I k hk k (by simp [z]) rfl) (fun k hk=>u.block k (q k (by simp [hk])) fun z=>K k z k hk rfl)
 rw [uW G] at D
 exact ⟨rfl,h4 w' _ _ D B (fun k hk => .inl hk) (u.more fun k hk=>by simp [hk])⟩
theorem qU {α:Type} {l:List α} {i:Nat} {x y:α} (h:l[i]?=some x):(l.set i y)[i]?=some y:=List.getElem?_set_self (List.getElem?_eq_some_iff.1 h).1
theorem vI (q inputs:Int) (SA LA OA:Option Addr) (sn sc ln lc on oc:Nat) (sq:List Sq) (lt:List Lt) (ou:List Int) (z:List Cel) (B:Value) (u:List Value) (W:World) (ps:List Pc) (i:Nat) (k0:Int) (w:World) (h:aJ W w ps) (hi:ps[i]?=some (.cels (.int q :: bD sq :: bM lt :: aH ou :: z) (B :: .slice SA sn sc :: .slice LA ln lc :: .slice OA on oc :: u))) (ax:0<=k0) (ar:k0+((ak (bD sq)+ak (bM lt)+ak (aH ou):Nat):Int)<=1099511627776) :
  Calls Tryz.prog 29 #[.agg #[.int .i64 inputs,.slice SA sn sc,.slice LA ln lc,.slice OA on oc],.int .i64 k0] w fun e w'=>e = .returned (.int .i64 (k0+(ak (bD sq):Int)+(ak (bM lt):Int)+(ak (aH ou):Int)))/\aJ W w' (ps.set i (.cels (.int q :: mkC (k0) (bD sq) :: mkC (k0+(ak (bD sq):Int)) (bM lt) :: mkC (k0+(ak (bD sq):Int)+(ak (bM lt):Int)) (aH ou) :: z) (B :: .slice SA sn sc :: .slice LA ln lc :: .slice OA on oc :: u))):=by
 have HO:=Hd (h.consBlk #[.int .i64 inputs,.slice SA sn sc,.slice LA ln lc,.slice OA on oc] 41)
 have U:(Pc.blk w.heap.size #[.int .i64 inputs,.slice SA sn sc,.slice LA ln lc,.slice OA on oc] 41 :: ps)[i+1]?=some (.cels (.int q :: bD sq :: bM lt :: aH ou :: z) (B :: .slice SA sn sc :: .slice LA ln lc :: .slice OA on oc :: u)):=hi
 have Z:=Hd U
 clear h hi U
 generalize Q:ak (bD sq)=G at *
 have J:=Hd Q
 generalize H:ak (bM lt)=q2 at *
 have V:=Hd H
 generalize K:ak (aH ou)=q3 at *
 have R:=Hd K
 clear Q H K
 go_enter Tryz.func29,Tryz.ntmps29
 go_upto_region 1 with fail
 obtain ⟨gx,D⟩:∃g,w.heap.size=g:=⟨_,rfl⟩
 rw [D] at HO Z
 (try rw [D])
 clear D
 generalize w.alloc (.cells #[.int .i64 inputs,.slice SA sn sc,.slice LA ln lc,.slice OA on oc] 41)=W0 at *
 obtain ⟨-,x1,lx⟩:=jv ((HO.out.blk 0 rfl).1)
 go_wp2_with fail
 refine (p8 (i:=i+1) (j:=1) HO.out Z.out rfl rfl (fun F a b=>xx SA sn sc _ F _ _ a b (by omega) (by rw [J.out];omega))).mono ?_
 rw [J.out]
 rintro _ w0 ⟨rfl,o0⟩
 have Y:Hid (aJ W w0 ((Pc.blk gx #[.int .i64 inputs,.slice SA sn sc,.slice LA ln lc,.slice OA on oc] 41 :: ps).set (i+1) (.cels (.int q :: mkC (k0) (bD sq) :: bM lt :: aH ou :: z) (B :: .slice SA sn sc :: .slice LA ln lc :: .slice OA on oc :: u)))):=Hd o0
 have ah:=Hd (qU (y:=Pc.cels (.int q :: mkC (k0) (bD sq) :: bM lt :: aH ou :: z) (B :: .slice SA sn sc :: .slice LA ln lc :: .slice OA on oc :: u)) Z.out)
 clear o0 lx x1
 obtain ⟨-,-,x2,lx⟩:=jX ((Y.out.blk 0 rfl).1)
 go_wp2_with fail
 refine (p8 (i:=i+1) (j:=2) Y.out ah.out rfl rfl (fun F a b=>xw LA ln lc _ F _ _ a b (by omega) (by rw [V.out];omega))).mono ?_
 rw [V.out]
 rintro _ w1 ⟨rfl,o1⟩
 rw [List.set_set] at o1
 have I:Hid (aJ W w1 ((Pc.blk gx #[.int .i64 inputs,.slice SA sn sc,.slice LA ln lc,.slice OA on oc] 41 :: ps).set (i+1) (.cels (.int q :: mkC (k0) (bD sq) :: mkC (k0+(G:Int)) (bM lt) :: aH ou :: z) (B :: .slice SA sn sc :: .slice LA ln lc :: .slice OA on oc :: u)))):=Hd o1
 have ai:=Hd (qU (y:=Pc.cels (.int q :: mkC (k0) (bD sq) :: mkC (k0+(G:Int)) (bM lt) :: aH ou :: z) (B :: .slice SA sn sc :: .slice LA ln lc :: .slice OA on oc :: u)) Z.out)
 clear o1 lx x2
 obtain ⟨-,-,-,x3,lx⟩:=cO ((I.out.blk 0 rfl).1)
 go_wp2_with fail
 refine (p8 (i:=i+1) (j:=3) I.out ai.out rfl rfl (fun F a b=>lU OA on oc _ F _ _ a b (by omega) (by rw [R.out];omega))).mono ?_
 rw [R.out]
 rintro _ w2 ⟨rfl,o2⟩
 rw [List.set_set] at o2
 have ag:Hid (aJ W w2 ((Pc.blk gx #[.int .i64 inputs,.slice SA sn sc,.slice LA ln lc,.slice OA on oc] 41 :: ps).set (i+1) (.cels (.int q :: mkC (k0) (bD sq) :: mkC (k0+(G:Int)) (bM lt) :: mkC (k0+(G:Int)+(q2:Int)) (aH ou) :: z) (B :: .slice SA sn sc :: .slice LA ln lc :: .slice OA on oc :: u)))):=Hd o2
 have aq:=Hd (qU (y:=Pc.cels (.int q :: mkC (k0) (bD sq) :: mkC (k0+(G:Int)) (bM lt) :: mkC (k0+(G:Int)+(q2:Int)) (aH ou) :: z) (B :: .slice SA sn sc :: .slice LA ln lc :: .slice OA on oc :: u)) Z.out)
 clear o2 lx x3
 go_wp2_with fail
 go_ret
 exact ⟨rfl,ag.out.tail⟩
theorem vJ (B:Int) (x:Lay) (SA LA OA BA CA PA RA:Option Addr) (sn sc ln lc on oc bn bc cn cc pn pc rn rc:Nat) (W:World) (ps:List Pc) (i:Nat) (k0:Int) (w:World) (h:aJ W w ps) (hi:ps[i]?=some (.cels [.int B,bD x.net.seqs,bM x.net.luts,aH x.net.outs,aa x.blocks,ah x.conns,aH x.place,bH x.routes] [.int .i64 x.net.inputs,.slice SA sn sc,.slice LA ln lc,.slice OA on oc,.slice BA bn bc,.slice CA cn cc,.slice PA pn pc,.slice RA rn rc])) (aL:0<=k0) (aR:k0+((ak (bD x.net.seqs)+ak (bM x.net.luts)+ak (aH x.net.outs)+ak (aa x.blocks)+ak (ah x.conns)+ak (aH x.place)+ak (bH x.routes):Nat):Int)<=1099511627776) :
  Calls Tryz.prog 16 #[.agg #[.int .i64 x.net.inputs,.slice SA sn sc,.slice LA ln lc,.slice OA on oc,.slice BA bn bc,.slice CA cn cc,.slice PA pn pc,.slice RA rn rc],.int .i64 k0] w fun e w'=>e = .returned (.int .i64 (k0+(ak (bD x.net.seqs):Int)+(ak (bM x.net.luts):Int)+(ak (aH x.net.outs):Int)+(ak (aa x.blocks):Int)+(ak (ah x.conns):Int)+(ak (aH x.place):Int)+(ak (bH x.routes):Int)))/\aJ W w' (ps.set i (.cels [.int B,mkC (k0) (bD x.net.seqs),mkC (k0+(ak (bD x.net.seqs):Int)) (bM x.net.luts),mkC (k0+(ak (bD x.net.seqs):Int)+(ak (bM x.net.luts):Int)) (aH x.net.outs),mkC (k0+(ak (bD x.net.seqs):Int)+(ak (bM x.net.luts):Int)+(ak (aH x.net.outs):Int)) (aa x.blocks),mkC (k0+(ak (bD x.net.seqs):Int)+(ak (bM x.net.luts):Int)+(ak (aH x.net.outs):Int)+(ak (aa x.blocks):Int)) (ah x.conns),mkC (k0+(ak (bD x.net.seqs):Int)+(ak (bM x.net.luts):Int)+(ak (aH x.net.outs):Int)+(ak (aa x.blocks):Int)+(ak (ah x.conns):Int)) (aH x.place),mkC (k0+(ak (bD x.net.seqs):Int)+(ak (bM x.net.luts):Int)+(ak (aH x.net.outs):Int)+(ak (aa x.blocks):Int)+(ak (ah x.conns):Int)+(ak (aH x.place):Int)) (bH x.routes)] [.int .i64 x.net.inputs,.slice SA sn sc,.slice LA ln lc,.slice OA on oc,.slice BA bn bc,.slice CA cn cc,.slice PA pn pc,.slice RA rn rc])):=by
 have HO:=Hd (h.consBlk #[.int .i64 x.net.inputs,.slice SA sn sc,.slice LA ln lc,.slice OA on oc,.slice BA bn bc,.slice CA cn cc,.slice PA pn pc,.slice RA rn rc] 46)
 have aq:(Pc.blk w.heap.size #[.int .i64 x.net.inputs,.slice SA sn sc,.slice LA ln lc,.slice OA on oc,.slice BA bn bc,.slice CA cn cc,.slice PA pn pc,.slice RA rn rc] 46 :: ps)[i+1]?=some (.cels [.int B,bD x.net.seqs,bM x.net.luts,aH x.net.outs,aa x.blocks,ah x.conns,aH x.place,bH x.routes] [.int .i64 x.net.inputs,.slice SA sn sc,.slice LA ln lc,.slice OA on oc,.slice BA bn bc,.slice CA cn cc,.slice PA pn pc,.slice RA rn rc]):=hi
 have H:=Hd aq
 clear h hi aq
 generalize Y:ak (bD x.net.seqs)=q at *
 have V:=Hd Y
 generalize U:ak (bM x.net.luts)=u at *
 have au:=Hd U
 generalize am:ak (aH x.net.outs)=z at *
 have ai:=Hd am
 generalize ae:ak (aa x.blocks)=D at *
 have R:=Hd ae
 generalize ao:ak (ah x.conns)=J at *
 have ag:=Hd ao
 generalize K:ak (aH x.place)=q6 at *
 have aj:=Hd K
 generalize Q:ak (bH x.routes)=q7 at *
 have al:=Hd Q
 clear Y U am ae ao K Q
 go_enter Tryz.func16,Tryz.ntmps16
 go_upto_region 1 with fail
 obtain ⟨gx,I⟩:∃g,w.heap.size=g:=⟨_,rfl⟩
 rw [I] at HO H
 (try rw [I])
 clear I
 generalize w.alloc (.cells #[.int .i64 x.net.inputs,.slice SA sn sc,.slice LA ln lc,.slice OA on oc,.slice BA bn bc,.slice CA cn cc,.slice PA pn pc,.slice RA rn rc] 46)=W0 at *
 obtain ⟨x0,x1,x2,x3,G⟩:=cO ((HO.out.blk 0 rfl).1)
 go_wp2_with fail
 refine (vI _ _ SA LA OA sn sc ln lc on oc _ _ _ _ _ _ W _ (i+1) _ _ HO.out H.out (by omega) (by rw [V.out,au.out,ai.out];omega)).mono ?_
 rw [V.out,au.out,ai.out]
 rintro _ w0 ⟨rfl,o0⟩
 have ad:Hid (aJ W w0 ((Pc.blk gx #[.int .i64 x.net.inputs,.slice SA sn sc,.slice LA ln lc,.slice OA on oc,.slice BA bn bc,.slice CA cn cc,.slice PA pn pc,.slice RA rn rc] 46 :: ps).set (i+1) (.cels [.int B,mkC (k0) (bD x.net.seqs),mkC (k0+(q:Int)) (bM x.net.luts),mkC (k0+(q:Int)+(u:Int)) (aH x.net.outs),aa x.blocks,ah x.conns,aH x.place,bH x.routes] [.int .i64 x.net.inputs,.slice SA sn sc,.slice LA ln lc,.slice OA on oc,.slice BA bn bc,.slice CA cn cc,.slice PA pn pc,.slice RA rn rc]))):=Hd o0
 have aC:=Hd (qU (y:=Pc.cels [.int B,mkC (k0) (bD x.net.seqs),mkC (k0+(q:Int)) (bM x.net.luts),mkC (k0+(q:Int)+(u:Int)) (aH x.net.outs),aa x.blocks,ah x.conns,aH x.place,bH x.routes] [.int .i64 x.net.inputs,.slice SA sn sc,.slice LA ln lc,.slice OA on oc,.slice BA bn bc,.slice CA cn cc,.slice PA pn pc,.slice RA rn rc]) H.out)
 clear o0 G x0 x1 x2 x3
 obtain ⟨-,-,-,-,x4,G⟩:=F6 ((ad.out.blk 0 rfl).1)
 go_wp2_with fail
 refine (p8 (i:=i+1) (j:=4) ad.out aC.out rfl rfl (fun F a b=>vG BA bn bc _ F _ _ a b (by omega) (by rw [R.out];omega))).mono ?_
 rw [R.out]
 rintro _ w1 ⟨rfl,o1⟩
 rw [List.set_set] at o1
 have af:Hid (aJ W w1 ((Pc.blk gx #[.int .i64 x.net.inputs,.slice SA sn sc,.slice LA ln lc,.slice OA on oc,.slice BA bn bc,.slice CA cn cc,.slice PA pn pc,.slice RA rn rc] 46 :: ps).set (i+1) (.cels [.int B,mkC (k0) (bD x.net.seqs),mkC (k0+(q:Int)) (bM x.net.luts),mkC (k0+(q:Int)+(u:Int)) (aH x.net.outs),mkC (k0+(q:Int)+(u:Int)+(z:Int)) (aa x.blocks),ah x.conns,aH x.place,bH x.routes] [.int .i64 x.net.inputs,.slice SA sn sc,.slice LA ln lc,.slice OA on oc,.slice BA bn bc,.slice CA cn cc,.slice PA pn pc,.slice RA rn rc]))):=Hd o1
 have ax:=Hd (qU (y:=Pc.cels [.int B,mkC (k0) (bD x.net.seqs),mkC (k0+(q:Int)) (bM x.net.luts),mkC (k0+(q:Int)+(u:Int)) (aH x.net.outs),mkC (k0+(q:Int)+(u:Int)+(z:Int)) (aa x.blocks),ah x.conns,aH x.place,bH x.routes] [.int .i64 x.net.inputs,.slice SA sn sc,.slice LA ln lc,.slice OA on oc,.slice BA bn bc,.slice CA cn cc,.slice PA pn pc,.slice RA rn rc]) H.out)
 clear o1 G x4
 obtain ⟨-,-,-,-,-,x5,G⟩:=F7 ((af.out.blk 0 rfl).1)
 go_wp2_with fail
 refine (p8 (i:=i+1) (j:=5) af.out ax.out rfl rfl (fun F a b=>wD CA cn cc _ F _ _ a b (by omega) (by rw [ag.out];omega))).mono ?_
 rw [ag.out]
 rintro _ w2 ⟨rfl,o2⟩
 rw [List.set_set] at o2
 have ap:Hid (aJ W w2 ((Pc.blk gx #[.int .i64 x.net.inputs,.slice SA sn sc,.slice LA ln lc,.slice OA on oc,.slice BA bn bc,.slice CA cn cc,.slice PA pn pc,.slice RA rn rc] 46 :: ps).set (i+1) (.cels [.int B,mkC (k0) (bD x.net.seqs),mkC (k0+(q:Int)) (bM x.net.luts),mkC (k0+(q:Int)+(u:Int)) (aH x.net.outs),mkC (k0+(q:Int)+(u:Int)+(z:Int)) (aa x.blocks),mkC (k0+(q:Int)+(u:Int)+(z:Int)+(D:Int)) (ah x.conns),aH x.place,bH x.routes] [.int .i64 x.net.inputs,.slice SA sn sc,.slice LA ln lc,.slice OA on oc,.slice BA bn bc,.slice CA cn cc,.slice PA pn pc,.slice RA rn rc]))):=Hd o2
 have av:=Hd (qU (y:=Pc.cels [.int B,mkC (k0) (bD x.net.seqs),mkC (k0+(q:Int)) (bM x.net.luts),mkC (k0+(q:Int)+(u:Int)) (aH x.net.outs),mkC (k0+(q:Int)+(u:Int)+(z:Int)) (aa x.blocks),mkC (k0+(q:Int)+(u:Int)+(z:Int)+(D:Int)) (ah x.conns),aH x.place,bH x.routes] [.int .i64 x.net.inputs,.slice SA sn sc,.slice LA ln lc,.slice OA on oc,.slice BA bn bc,.slice CA cn cc,.slice PA pn pc,.slice RA rn rc]) H.out)
 clear o2 G x5
 obtain ⟨-,-,-,-,-,-,x6,G⟩:=F4 ((ap.out.blk 0 rfl).1)
 go_wp2_with fail
 refine (p8 (i:=i+1) (j:=6) ap.out av.out rfl rfl (fun F a b=>lU PA pn pc _ F _ _ a b (by omega) (by rw [aj.out];omega))).mono ?_
 rw [aj.out]
 rintro _ w3 ⟨rfl,o3⟩
 rw [List.set_set] at o3
 have Z:Hid (aJ W w3 ((Pc.blk gx #[.int .i64 x.net.inputs,.slice SA sn sc,.slice LA ln lc,.slice OA on oc,.slice BA bn bc,.slice CA cn cc,.slice PA pn pc,.slice RA rn rc] 46 :: ps).set (i+1) (.cels [.int B,mkC (k0) (bD x.net.seqs),mkC (k0+(q:Int)) (bM x.net.luts),mkC (k0+(q:Int)+(u:Int)) (aH x.net.outs),mkC (k0+(q:Int)+(u:Int)+(z:Int)) (aa x.blocks),mkC (k0+(q:Int)+(u:Int)+(z:Int)+(D:Int)) (ah x.conns),mkC (k0+(q:Int)+(u:Int)+(z:Int)+(D:Int)+(J:Int)) (aH x.place),bH x.routes] [.int .i64 x.net.inputs,.slice SA sn sc,.slice LA ln lc,.slice OA on oc,.slice BA bn bc,.slice CA cn cc,.slice PA pn pc,.slice RA rn rc]))):=Hd o3
 have ay:=Hd (qU (y:=Pc.cels [.int B,mkC (k0) (bD x.net.seqs),mkC (k0+(q:Int)) (bM x.net.luts),mkC (k0+(q:Int)+(u:Int)) (aH x.net.outs),mkC (k0+(q:Int)+(u:Int)+(z:Int)) (aa x.blocks),mkC (k0+(q:Int)+(u:Int)+(z:Int)+(D:Int)) (ah x.conns),mkC (k0+(q:Int)+(u:Int)+(z:Int)+(D:Int)+(J:Int)) (aH x.place),bH x.routes] [.int .i64 x.net.inputs,.slice SA sn sc,.slice LA ln lc,.slice OA on oc,.slice BA bn bc,.slice CA cn cc,.slice PA pn pc,.slice RA rn rc]) H.out)
 clear o3 G x6
 obtain ⟨-,-,-,-,-,-,-,x7,G⟩:=mK ((Z.out.blk 0 rfl).1)
 go_wp2_with fail
 refine (p8 (i:=i+1) (j:=7) Z.out ay.out rfl rfl (fun F a b=>vH RA rn rc _ F _ _ a b (by omega) (by rw [al.out];omega))).mono ?_
 rw [al.out]
 rintro _ w4 ⟨rfl,o4⟩
 rw [List.set_set] at o4
 have aB:Hid (aJ W w4 ((Pc.blk gx #[.int .i64 x.net.inputs,.slice SA sn sc,.slice LA ln lc,.slice OA on oc,.slice BA bn bc,.slice CA cn cc,.slice PA pn pc,.slice RA rn rc] 46 :: ps).set (i+1) (.cels [.int B,mkC (k0) (bD x.net.seqs),mkC (k0+(q:Int)) (bM x.net.luts),mkC (k0+(q:Int)+(u:Int)) (aH x.net.outs),mkC (k0+(q:Int)+(u:Int)+(z:Int)) (aa x.blocks),mkC (k0+(q:Int)+(u:Int)+(z:Int)+(D:Int)) (ah x.conns),mkC (k0+(q:Int)+(u:Int)+(z:Int)+(D:Int)+(J:Int)) (aH x.place),mkC (k0+(q:Int)+(u:Int)+(z:Int)+(D:Int)+(J:Int)+(q6:Int)) (bH x.routes)] [.int .i64 x.net.inputs,.slice SA sn sc,.slice LA ln lc,.slice OA on oc,.slice BA bn bc,.slice CA cn cc,.slice PA pn pc,.slice RA rn rc]))):=Hd o4
 have aW:=Hd (qU (y:=Pc.cels [.int B,mkC (k0) (bD x.net.seqs),mkC (k0+(q:Int)) (bM x.net.luts),mkC (k0+(q:Int)+(u:Int)) (aH x.net.outs),mkC (k0+(q:Int)+(u:Int)+(z:Int)) (aa x.blocks),mkC (k0+(q:Int)+(u:Int)+(z:Int)+(D:Int)) (ah x.conns),mkC (k0+(q:Int)+(u:Int)+(z:Int)+(D:Int)+(J:Int)) (aH x.place),mkC (k0+(q:Int)+(u:Int)+(z:Int)+(D:Int)+(J:Int)+(q6:Int)) (bH x.routes)] [.int .i64 x.net.inputs,.slice SA sn sc,.slice LA ln lc,.slice OA on oc,.slice BA bn bc,.slice CA cn cc,.slice PA pn pc,.slice RA rn rc]) H.out)
 clear o4 G x7
 go_wp2_with fail
 go_ret
 exact ⟨rfl,aB.out.tail⟩
theorem aJ.lift {W v w:World} {ps:List Pc} (j:Below W.heap.size W w) (u:aJ v w ps) (z:W.heap.size<=v.heap.size):aJ W w ps:=by
 obtain ⟨_,F,g,q,B⟩:=u
 exact ⟨j,F,g,q,fun k hk=>Nat.le_trans z (B k hk)⟩
theorem aJ.rdc {W w:World} {ps:List Pc} (h:aJ W w ps) (i j:Nat) {cs:List Cel} {vs:List Value} {c:Cel} {v:Value} (hi:ps[i]?=some (.cels cs vs)) (hc:cs[j]?=some c) (q:vs[j]?=some v):RdC w w.heap.size c v:=by
 obtain ⟨F,h1,h2,h3,_⟩:=h.part i hi
 obtain ⟨u,B,g,z,_⟩:=dh.part (lo:=W.heap.size) (hi:=w.heap.size) ⟨F,h1,h2,h3⟩ hc q
 exact gI.rd ⟨u,B,g,z⟩
theorem mF {α:Type} {cells:α→List Cel} (h:∀x,dE (cells x)<=4 * (1+af (cells x))):∀xs:List α,dE (xs.flatMap cells)<=4 * (xs.length+af (xs.flatMap cells))
 | []=>by simp [dE]
 | x :: xs=>by
  have h1:=h x
  have h2:=mF h xs
  rw [List.flatMap_cons,qO,iD,List.length_cons]
  omega
theorem nC (xs:List Int):ak (aH xs)<=4 * szC (aH xs):=by rw [nZ,aH,ak,yV];omega
theorem Fb (es:List LeT):ak (cZ es)<=4 * szC (cZ es):=by
 unfold cZ
 rw [cK (cells:=LeT.cells) (s:=2) (fun _=>rfl) (by omega),ak]
 exact mF (fun x=>by simp [LeT.cells,dE,ak];omega) es
theorem FB (es:List bS):ak (bR es)<=4 * szC (bR es):=by
 unfold bR
 rw [cK (cells:=bS.cells) (s:=2) (fun _=>rfl) (by omega),ak]
 exact mF (fun x=>by simp [bS.cells,dE,ak];omega) es
theorem Fe (es:List Sq):ak (bD es)<=4 * szC (bD es):=by
 unfold bD
 rw [cK (cells:=Sq.cells) (s:=3) (fun _=>rfl) (by omega),ak]
 exact mF (fun x=>by have:=nC x.ins;simp only [Sq.cells,dE,ak,au,bP,fM] at this ⊢;omega) es
theorem Ff (es:List Lt):ak (bM es)<=4 * szC (bM es):=by
 unfold bM
 rw [cK (cells:=Lt.cells) (s:=2) (fun _=>rfl) (by omega),ak]
 exact mF (fun x=>by have:=nC x.ins;simp only [Lt.cells,dE,ak,au,bP,fM] at this ⊢;omega) es
theorem FC (es:List Blk):ak (aa es)<=4 * szC (aa es):=by
 unfold aa
 rw [cK (cells:=Blk.cells) (s:=3) (fun _=>rfl) (by omega),ak]
 exact mF (fun x=>by have:=Fb x.les;simp only [Blk.cells,dE,ak,au,bP,fM] at this ⊢;omega) es
theorem Fg (es:List Cn):ak (ah es)<=4 * szC (ah es):=by
 unfold ah
 rw [cK (cells:=Cn.cells) (s:=4) (fun _=>rfl) (by omega),ak]
 exact mF (fun x=>by have:=FB x.sinks;simp only [Cn.cells,dE,ak,au,bP,fM] at this ⊢;omega) es
theorem FD (es:List Rou):ak (bH es)<=4 * szC (bH es):=by
 unfold bH
 rw [cK (cells:=Rou.cells) (s:=2) (fun _=>rfl) (by omega),ak]
 exact mF (fun x=>by have:=nC x.nodes;have:=nC x.from_;simp only [Rou.cells,dE,au,bP] at *;omega) es
theorem FE (x:Lay):ak (bD x.net.seqs)+ak (bM x.net.luts)+ak (aH x.net.outs)+ak (aa x.blocks)+ak (ah x.conns)+ak (aH x.place)+ak (bH x.routes)<=4 * af x.cells:=by
 have h0:af x.cells=szC (bD x.net.seqs)+(szC (bM x.net.luts)+(szC (aH x.net.outs)+(szC (aa x.blocks)+(szC (ah x.conns)+(szC (aH x.place)+(szC (bH x.routes)+0)))))):=by
  unfold Lay.cells ag.cells
  simp only [List.cons_append,List.nil_append,au,bP,fM]
  omega
 have:=Fe x.net.seqs;have:=Ff x.net.luts;have:=nC x.net.outs;have:=FC x.blocks;have:=Fg x.conns;have:=nC x.place;have:=FD x.routes
 omega
abbrev FF (x:Lay):List Cel:=[.int x.net.inputs,bD x.net.seqs,bM x.net.luts,aH x.net.outs,aa x.blocks,ah x.conns,aH x.place,bH x.routes]
abbrev Bt (x:Lay) (B j q D u g z:Option Addr) (sn ln on bn cn pn rn:Nat):List Value:=[.int .i64 x.net.inputs,.slice B sn sn,.slice j ln ln,.slice q on on,.slice D bn bn,.slice u cn cn,.slice g pn pn,.slice z rn rn]
theorem pI {W w:World} {ps:List Pc} {x:Lay} {q z g u j D B:Option Addr} {sn ln on bn cn pn rn:Nat} (h:aJ W w ps) (i:Nat) (hi:ps[i]?=some (.cels (FF x) (Bt x q z g u j D B sn ln on bn cn pn rn))):lK w x q z g u j D B sn sn ln ln on on bn bn cn cn pn pn rn rn :=
 ⟨h.rdc i 1 hi rfl rfl,h.rdc i 2 hi rfl rfl,h.rdc i 3 hi rfl rfl,h.rdc i 4 hi rfl rfl,h.rdc i 5 hi rfl rfl,h.rdc i 6 hi rfl rfl,h.rdc i 7 hi rfl rfl⟩
theorem xy (x:Lay) (SA LA OA BA CA PA RA:Option Addr) (sn sc ln lc on oc bn bc cn cc pn pc rn rc:Nat) (w:World) (h:lK w x SA LA OA BA CA PA RA sn sc ln lc on oc bn bc cn cc pn pc rn rc) (G:af x.cells<=1048576) :
  Calls Tryz.prog 10 #[vR x SA LA OA BA CA PA RA sn sc ln lc on oc bn bc cn cc pn pc rn rc] w fun e w'=>∃q z g u j D B,e = .returned (vR x q z g u j D B sn sn ln ln on on bn bn cn cn pn pn rn rn)/\aJ w w' [.cels (FF x) (Bt x q z g u j D B sn ln on bn cn pn rn)] :=
 (yD SA LA OA BA CA PA RA sn sc ln lc on oc bn bc cn cc pn pc rn rc x w h.sq h.lt h.ou h.bl h.cn h.pl h.ro G).mono fun _ _ ⟨q,z,g,u,j,D,B,h1,h2,h3⟩=>⟨q,z,g,u,j,D,B,h1,(aJ.refl w).pushLs h3 h2⟩
def oh (W:World) (T:List bC) (r:Bool) (p u:Value) (w':World):Prop:=∃A n c,p = .slice A n c/\u = .bool r/\aJ W w' [.cel (dW T) (.slice A n c)]
theorem oh.drew {W w:World} {T:List bC} {r:Bool} {p u:Value} (h:oh W T r p u w):oh W T r p u w.drew:=by
 obtain ⟨A,n,c,h1,h2,h3⟩:=h
 exact ⟨A,n,c,h1,h2,h3.drew⟩
theorem DU {W v w:World} {T:List bC} {r:Bool} {A:Option Addr} {n c:Nat} (g:Below W.heap.size W w) (j:aJ v w [.cel (dW T) (.slice A n c)]) (q:W.heap.size<=v.heap.size):oh W T r (.slice A n c) (.bool r) w :=
 ⟨_,_,_,rfl,rfl,aJ.lift g j q⟩
theorem FH (d:Dev) (x:Lay):(cfgD d x).length<=36/\tsN (cfgD d x) (cfgD d x).length<=1440:=by
 by_cases hf:jB d x
 ·have j:cfgD d x=ql d x:=if_pos hf
  rw [j]
  have hk:iG d (ql d x):=(qf hf x.blocks.length (Nat.le_refl _)).1
  obtain ⟨h1,h2,h3⟩:=lD hf.place.dev
  have hl:(ql d x).length<=36:=by rw [hk.len];omega
  have D:=(oC hf.place.dev).2.2.1
  have h:=EF (ts:=ql d x) (fun i hi=>by
   have q:=hk.les i hi
   have g:=hk.sel i hi
   have z:=hk.mux i hi
   change (tAt (ql d x) i).mux.length+jU (tAt (ql d x) i).les (tAt (ql d x) i).les.length+2<=40
   have e:jU (tAt (ql d x) i).les (tAt (ql d x) i).les.length=14:=by
    generalize (tAt (ql d x) i).les=L at *
    match L,q with
    | [a,b],_ =>
     have u:=g a (by simp)
     have B:=g b (by simp)
     simp [jU,xK,u,B]
   omega) (ql d x).length (Nat.le_refl _)
  exact ⟨hl,by omega⟩
 have j:cfgD d x=[]:=if_neg hf
 rw [j]
 exact ⟨by simp,by simp [tsN]⟩
theorem DV {W w:World} {ps:List Pc} (h:aJ W w ps) (i:Nat) {A:Option Addr} {n c:Nat} {ts:List bC} {k0:Int} (hi:ps[i]?=some (.cel (dW ts) (.slice A n c))) (q:0<=k0) (j:k0<=1099511627776) (D:tsN ts ts.length<=1099511627776) :
  Calls Tryz.prog 22 #[.slice A n c,.int .i64 k0] w fun e w'=>e = .returned (.int .i64 (k0+tsN ts n))/\aJ W w' (ps.set i (.cel (dW (uO k0 ts)) (.slice A n c))):=by
 obtain ⟨F,z,u,_,B⟩:=h.part i hi
 have g:bO w (dW ts) (.slice A n c) F:=z
 exact (qm A n c ts F k0 w g u q j (by rw [←g.tlen];exact D)).mono fun e w' ⟨a,b,o⟩=>⟨a,B w' _ F b u (fun k hk => .inl hk) o⟩
end Go.Proofs.YtofihjoanjkdmaaGreat
