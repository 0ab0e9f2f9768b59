/- Marking nested data, cell by cell. -/
import Derived.Test.YtofihjoanjkdmaaGreatLayBd
import Derived.Test.YtofihjoanjkdmaaGreatLayDD
import Derived.Test.YtofihjoanjkdmaaGreatLayDM
import Derived.Test.YtofihjoanjkdmaaGreatLayEq
import Derived.Test.YtofihjoanjkdmaaGreatLayTo
namespace Go.Proofs.YtofihjoanjkdmaaGreat
set_option maxHeartbeats 2000000
set_option maxRecDepth 100000
open Go.RowKit
theorem gQ {w:World} {e s n c:Nat} {A:Option Addr} {cs:List Cel} {F:List Nat} (h:dD w (.row e s cs) (.slice A n c) F):cs.length=n * s:=by
 rw [eY] at h
 obtain ⟨j,q,u,vs,F',g,ho,_,hl⟩:=h
 injection g with _ hn _
 subst hn
 rw [←hl.len]
 exact ho.1
theorem eO {α:Type} {cells:α→List Cel} {s:Nat} (hf:∀x,(cells x).length=s) {z:α}:∀{xs:List α} {i r:Nat},i<xs.length→r<s→(xs.flatMap cells)[i * s+r]?=(cells (xs[i]?.getD z))[r]?
 | [],i,r,hi,_=>by simp at hi
 | x :: xs,0,r,_,hr=>by rw [List.flatMap_cons,Nat.zero_mul,Nat.zero_add,List.getElem?_append_left (by rw [hf];exact hr)];rfl
 | x :: xs,i+1,r,hi,hr=>by
  rw [List.flatMap_cons,List.getElem?_append_right (by rw [hf,Nat.succ_mul];omega),hf,show (i+1) * s+r - s=i * s+r by rw [Nat.succ_mul];omega,eO hf (by simpa using hi) hr]
  rfl
theorem lK {w:World} {g p q:Nat} {v:Value} (h:p≠q):(w.setCell ⟨g,p,none⟩ v).cell? ⟨g,q,none⟩=w.cell? ⟨g,q,none⟩:=World.cell?_setCell_other _ _ _ _ (fun e=>h (by injection e))
structure Mkd (F:List Nat) (e s n c g:Nat) (k0:Int) (cs:List Cel) (w0 w:World) (j:Nat):Prop where
 own:dD w (.row e s (mkP k0 cs j)) (.slice (some ⟨g,0,none⟩) n c) F
 only:iU F w0 w
section
variable {F:List Nat} {e s n c g j:Nat} {k0:Int} {cs:List Cel} {w0 w:World}
theorem Du {q:Nat} (hq:j<=q) (hl:j<=cs.length):(mkP k0 cs j)[q]?=cs[q]?:=by
 have h1:(mkL k0 (cs.take j)).length=j:=by rw [rC];simp;omega
 unfold mkP
 rw [List.getElem?_append_right (by omega),h1,List.getElem?_drop]
 congr 1
 omega
theorem Mkd.get (h:Mkd F e s n c g k0 cs w0 w j) (z:F.Nodup) {q:Nat} (hq:j<=q) {x:Int} (hc:cs[q]?=some (.int x)):w.cell? ⟨g,q,none⟩=some (.int .i64 x)/\w.frozen? ⟨g,q,none⟩=false/\g<w.heap.size:=by
 have hl:=(List.getElem?_eq_some_iff.1 hc).1
 obtain ⟨B,hA,u,h1,h2,-⟩:=h.own.num z ((Du hq (by omega)).trans hc)
 injection hA with hA
 injection hA with hA
 subst hA
 exact ⟨h1,h2,h.own.lt _ u⟩
theorem Mkd.put (h:Mkd F e s n c g k0 cs w0 w j) (z:F.Nodup) {x:Int} (hc:cs[j]?=some (.int x)) {y:Int} (u:y=k0+(bZ (cs.take j):Int)):Mkd F e s n c g k0 cs w0 (w.setCell ⟨g,j,none⟩ (.int .i64 y)) (j+1):=by
 obtain ⟨B,hA,q,-,-,h3⟩:=h.own.num z (BN hc)
 injection hA with hA
 injection hA with hA
 subst hA
 refine ⟨?_,h.only.trans (sS q _)⟩
 rw [←BO hc,u]
 exact h3 _
theorem Mkd.row (h:Mkd F e s n c g k0 cs w0 w j) (D:F.Nodup) {e' q:Nat} {z:List Cel} (hc:cs[j]?=some (.row e' q z)):∃S m p G,w.cell? ⟨g,j,none⟩=some (.slice S m p)/\g<w.heap.size/\dD w (.row e' q z) (.slice S m p) G/\G.Nodup /\
  ∀(k:Int) (w':World),k=k0+(bZ (cs.take j):Int)→dD w' (mkC k (.row e' q z)) (.slice S m p) G→iU G w w'→Mkd F e s n c g k0 cs w0 w' (j+1):=by
 obtain ⟨H,v,G,hA,u,h1,h2,h3,-,h5,B⟩:=h.own.child D (BN hc)
 injection hA with hA
 injection hA with hA
 subst hA
 obtain ⟨S,m,p,vs,F',rfl,-⟩:=eY.1 h2
 refine ⟨S,m,p,G,h1,h.own.lt _ u,h2,h3,fun k w' hk ho hg=>⟨?_,h.only.trans (hg.more h5)⟩⟩
 rw [←BO hc,←hk]
 exact B w' _ ho hg
theorem kL {A:Option Addr} (h:dD w (.row e s cs) (.slice A n c) F) (hj:0<cs.length):∃g,A=some ⟨g,0,none⟩/\Mkd F e s n c g k0 cs w w 0:=by
 obtain ⟨g,u,v,q,j,F2,rfl,-⟩:=h.cell hj
 exact ⟨g,rfl,by rw [DW];exact h,iU.refl _ _⟩
theorem Mkd.done (h:Mkd F e s n c g k0 cs w0 w j) (hj:cs.length<=j):dD w (mkC k0 (.row e s cs)) (.slice (some ⟨g,0,none⟩) n c) F/\iU F w0 w:=by
 refine ⟨?_,h.only⟩
 rw [mkC,←DX k0 cs hj]
 exact h.own
end
theorem jE {w:World} {e s n c:Nat} {A:Option Addr} {cs:List Cel} {F:List Nat} (h:dD w (.row e s cs) (.slice A n c) F):n<=9223372036854775807:=by
 rw [eY] at h
 obtain ⟨u,z,B,vs,F',j,ho,_,_⟩:=h
 injection j with _ hn _
 subst hn
 rcases ho.2 with ⟨h1,h2⟩|⟨g,q,cur,h1,_,_,h3,h4,_⟩
 ·injection h1 with _ h1 _;omega
 injection h1 with _ h1 _;unfold maxLen at h4;omega
theorem kG (A:Option Addr) (n c:Nat) (xs:List Int) (F:List Nat) (k0:Int) (w:World) (h:dD w (aG xs) (.slice A n c) F) (q:F.Nodup) (j:0<=k0) (g:k0+(aY (aG xs):Int)<=1099511627776) :
  Calls Tryz.prog 63 #[.slice A n c,.int .i64 k0] w fun e w'=>e = .returned (.int .i64 (k0+(aY (aG xs):Int)))/\dD w' (mkC k0 (aG xs)) (.slice A n c) F/\iU F w w':=by
 obtain ⟨ho,rfl⟩:=gB.1 h
 have hl:xs.length=n:=ho.len
 have hc:aY (aG xs)=n:=by rw [aG,aY,ug,hl]
 rw [hc] at g ⊢
 refine (yA 0 A n c xs k0 w ho j (by omega) (by omega)).mono ?_
 rintro e w' ⟨rfl,h1,h2⟩
 refine ⟨rfl,?_,BF h2⟩
 rw [aG,mkC,BP,hl]
 exact gB.2 ⟨h1,rfl⟩
theorem y8 (A:Option Addr) (n c:Nat) (xs:List LeT) (F:List Nat) (k0:Int) (w:World) (h:dD w (cO xs) (.slice A n c) F) (hF:F.Nodup) (ax:0<=k0) (q:k0+(aY (cO xs):Int)<=1099511627776) :
  Calls Tryz.prog 143 #[.slice A n c,.int .i64 k0] w fun e w'=>e = .returned (.int .i64 (k0+(aY (cO xs):Int)))/\dD w' (mkC k0 (cO xs)) (.slice A n c) F/\iU F w w':=by
 have hl:xs.length=n:=by have h1:=gQ h;unfold cO at h1;rw [fB (s:=2) (fun _=>rfl)] at h1;omega
 have hn:=jE h
 obtain ⟨Y,W,j⟩:=hd3 hl h hF
 have D:Hid (aY (cO xs)=bZ (xs.flatMap LeT.cells)):=by show _=_;rw [cO,aY]
 rw [D.out] at q
 have G:=Hd q
 clear h hF hl
 by_cases al:n=0
 ·subst al
  have hx:xs=[]:=List.eq_nil_of_length_eq_zero Y.out
  subst hx
  go_enter Tryz.func143,Tryz.ntmps143
  go_wp2_with fail
  go_loopw [1,5] (fun v i wr=>v = .int .i64 k0/\i = .int .i64 0/\w=wr) (fun _ _ _=>0)
  ·exact ⟨rfl,rfl,rfl⟩
  obtain ⟨rfl,rfl,rfl⟩:=hrel
  go_wp2_with fail
  go_ret
  exact ⟨aL (by rw [D.out];simp [bZ]),W.out,iU.refl _ _⟩
 obtain ⟨g,rfl,U⟩:=kL (k0:=k0) W.out (by rw [gQ W.out];omega)
 have ad:=Hd U
 clear U W
 go_enter Tryz.func143,Tryz.ntmps143
 go_wp2_with fail
 go_loopw [1,5] (fun v i wr=>∃k:Nat,k<=n/\i = .int .i64 (k:Int)/\v = .int .i64 (k0+(bZ ((xs.flatMap LeT.cells).take (k * 2)):Int))/\Mkd F 94 2 n c g k0 (xs.flatMap LeT.cells) w wr (k * 2)) (fun _ i _=>n - (intOf i).toNat)
 ·exact ⟨0,by omega,rfl,by simp [bZ],by rw [Nat.zero_mul];exact ad.out⟩
 obtain ⟨k,hk,rfl,rfl,hm⟩:=hrel
 have V:=Hd hm
 clear hm
 by_cases ag:k<n
 ·have u:k<xs.length:=by rw [Y.out];exact ag
  have H:Hid ((xs.flatMap LeT.cells)[k * 2]?=some (.int ((xs[k]?.getD LeT.zero).lut))):=eO (cells:=LeT.cells) (s:=2) (z:=LeT.zero) (r:=0) (fun _=>rfl) u (by omega)
  have ai:=eF H.out
  have B:Hid ((xs.flatMap LeT.cells)[k * 2+1]?=some (.int ((xs[k]?.getD LeT.zero).ff))):=eO (cells:=LeT.cells) (s:=2) (z:=LeT.zero) (r:=1) (fun _=>rfl) u (by omega)
  have ah:=eF B.out
  have ay:=gU (xs.flatMap LeT.cells) (k * 2+2)
  try simp only [aY] at ai
  try simp only [aY] at ah
  have I:(k+1) * 2=k * 2+2:=by omega
  generalize J:bZ ((xs.flatMap LeT.cells).take (k * 2))=K0 at *
  generalize K:bZ ((xs.flatMap LeT.cells).take (k * 2+1))=K1 at *
  generalize Q:bZ ((xs.flatMap LeT.cells).take (k * 2+2))=K2 at *
  have q:=G.out
  obtain ⟨ak,G,aj⟩:=hd3 J K Q
  obtain ⟨i0,i1⟩:=ib (by omega:k<n)
  have R:=Hd I
  clear u I J K Q
  obtain ⟨c0,f0,aw⟩:=V.out.get j.out (by omega) H.out
  have ae:=Hd (V.out.put j.out H.out (y:=k0+(K0:Int)) (by rw [ak.out]))
  obtain ⟨c1,f1,au⟩:=V.out.get j.out (by omega) B.out
  have Z:=Hd (ae.out.put j.out B.out (y:=k0+(K0:Int)+1) (by rw [G.out];omega))
  go_wp2_with fail
  go_roundw
  ·exact ⟨k+1,by omega,by go_num,by rw [R.out,aj.out];congr 1;omega,by rw [R.out];exact Z.out⟩
  simp [intOf];omega
 have af:k=n:=by omega
 subst af
 have hd:=V.out.done (by rw [fB (s:=2) (fun _=>rfl),Y.out];exact Nat.le_refl _)
 have HD:=Hd hd
 have HV:Hid (bZ ((xs.flatMap LeT.cells).take (k * 2))=aY (cO xs)):=by show _=_;rw [D.out,List.take_of_length_le (by rw [fB (s:=2) (fun _=>rfl),Y.out];exact Nat.le_refl _)]
 rw [HV.out]
 clear hd
 go_wp2_with fail
 go_ret
 exact ⟨rfl,HD.out.1,HD.out.2⟩
theorem uy (A:Option Addr) (n c:Nat) (xs:List Blk) (F:List Nat) (k0:Int) (w:World) (h:dD w (aa xs) (.slice A n c) F) (hF:F.Nodup) (aR:0<=k0) (D:k0+(aY (aa xs):Int)<=1099511627776) :
  Calls Tryz.prog 61 #[.slice A n c,.int .i64 k0] w fun e w'=>e = .returned (.int .i64 (k0+(aY (aa xs):Int)))/\dD w' (mkC k0 (aa xs)) (.slice A n c) F/\iU F w w':=by
 have hl:xs.length=n:=by have h1:=gQ h;unfold aa at h1;rw [fB (s:=3) (fun _=>rfl)] at h1;omega
 have hn:=jE h
 obtain ⟨HL,HO,j⟩:=hd3 hl h hF
 have B:Hid (aY (aa xs)=bZ (xs.flatMap Blk.cells)):=by show _=_;rw [aa,aY]
 rw [B.out] at D
 have G:=Hd D
 clear h hF hl
 by_cases aA:n=0
 ·subst aA
  have hx:xs=[]:=List.eq_nil_of_length_eq_zero HL.out
  subst hx
  go_enter Tryz.func61,Tryz.ntmps61
  go_wp2_with fail
  go_loopw [1,5] (fun v i wr=>v = .int .i64 k0/\i = .int .i64 0/\w=wr) (fun _ _ _=>0)
  ·exact ⟨rfl,rfl,rfl⟩
  obtain ⟨rfl,rfl,rfl⟩:=hrel
  go_wp2_with fail
  go_ret
  exact ⟨aL (by rw [B.out];simp [bZ]),HO.out,iU.refl _ _⟩
 obtain ⟨g,rfl,R⟩:=kL (k0:=k0) HO.out (by rw [gQ HO.out];omega)
 have aB:=Hd R
 clear R HO
 go_enter Tryz.func61,Tryz.ntmps61
 go_wp2_with fail
 go_loopw [1,5] (fun v i wr=>∃k:Nat,k<=n/\i = .int .i64 (k:Int)/\v = .int .i64 (k0+(bZ ((xs.flatMap Blk.cells).take (k * 3)):Int))/\Mkd F 89 3 n c g k0 (xs.flatMap Blk.cells) w wr (k * 3)) (fun _ i _=>n - (intOf i).toNat)
 ·exact ⟨0,by omega,rfl,by simp [bZ],by rw [Nat.zero_mul];exact aB.out⟩
 obtain ⟨k,hk,rfl,rfl,hm⟩:=hrel
 have HM:=Hd hm
 clear hm
 by_cases au:k<n
 ·have q:k<xs.length:=by rw [HL.out];exact au
  have H:Hid ((xs.flatMap Blk.cells)[k * 3]?=some (.int ((xs[k]?.getD Blk.zero).kind))):=eO (cells:=Blk.cells) (s:=3) (z:=Blk.zero) (r:=0) (fun _=>rfl) q (by omega)
  have ay:=eF H.out
  have J:Hid ((xs.flatMap Blk.cells)[k * 3+1]?=some (.int ((xs[k]?.getD Blk.zero).item))):=eO (cells:=Blk.cells) (s:=3) (z:=Blk.zero) (r:=1) (fun _=>rfl) q (by omega)
  have aE:=eF J.out
  have ak:Hid ((xs.flatMap Blk.cells)[k * 3+2]?=some (cO (xs[k]?.getD Blk.zero).les)):=eO (cells:=Blk.cells) (s:=3) (z:=Blk.zero) (r:=2) (fun _=>rfl) q (by omega)
  have aX:=eF ak.out
  have a1:=gU (xs.flatMap Blk.cells) (k * 3+3)
  try simp only [aY] at ay
  try simp only [aY] at aE
  have Z:(k+1) * 3=k * 3+3:=by omega
  generalize ag:bZ ((xs.flatMap Blk.cells).take (k * 3))=K0 at *
  generalize af:bZ ((xs.flatMap Blk.cells).take (k * 3+1))=K1 at *
  generalize W:bZ ((xs.flatMap Blk.cells).take (k * 3+2))=K2 at *
  generalize al:bZ ((xs.flatMap Blk.cells).take (k * 3+3))=K3 at *
  generalize K:aY (cO (xs[k]?.getD Blk.zero).les)=q2 at *
  have D:=G.out
  obtain ⟨az,G,aF,aw,V⟩:=hd5 ag af W al K
  obtain ⟨i0,i1⟩:=ib (by omega:k<n)
  have ah:=Hd Z
  clear q Z ag af W al K
  obtain ⟨c0,f0,ax⟩:=HM.out.get j.out (by omega) H.out
  have av:=Hd (HM.out.put j.out H.out (y:=k0+(K0:Int)) (by rw [az.out]))
  obtain ⟨c1,f1,aq⟩:=HM.out.get j.out (by omega) J.out
  have ar:=Hd (av.out.put j.out J.out (y:=k0+(K0:Int)+1) (by rw [G.out];omega))
  obtain ⟨S2,m2,p2,G2,ai,U,Q,ae,aj⟩:=ar.out.row j.out ak.out
  rw [lK (by omega),lK (by omega)] at ai
  simp only [World.size_setCell] at U
  obtain ⟨I,Y,u⟩:=hd3 Q aj ae
  clear Q aj ae
  have ad:=jE I.out
  go_wp2_with fail
  refine (y8 S2 m2 p2 _ G2 _ _ I.out u.out (by omega) (by rw [V.out];omega)).mono ?_
  rw [V.out]
  rintro _ w1 ⟨rfl,o1,g1⟩
  have aD:=Hd (Y.out _ w1 (by rw [aF.out];omega) o1 g1)
  clear o1 g1 I Y u ad c0 f0 ax c1 f1 aq ai U
  go_wp2_with fail
  go_roundw
  ·exact ⟨k+1,by omega,by go_num,by rw [ah.out,aw.out];congr 1;omega,by rw [ah.out];exact aD.out⟩
  simp [intOf];omega
 have aC:k=n:=by omega
 subst aC
 have hd:=HM.out.done (by rw [fB (s:=3) (fun _=>rfl),HL.out];exact Nat.le_refl _)
 have HD:=Hd hd
 have HV:Hid (bZ ((xs.flatMap Blk.cells).take (k * 3))=aY (aa xs)):=by show _=_;rw [B.out,List.take_of_length_le (by rw [fB (s:=3) (fun _=>rfl),HL.out];exact Nat.le_refl _)]
 rw [HV.out]
 clear hd
 go_wp2_with fail
 go_ret
 exact ⟨rfl,HD.out.1,HD.out.2⟩
theorem xS (A:Option Addr) (n c:Nat) (xs:List ah) (F:List Nat) (k0:Int) (w:World) (h:dD w (bL xs) (.slice A n c) F) (hF:F.Nodup) (ay:0<=k0) (q:k0+(aY (bL xs):Int)<=1099511627776) :
  Calls Tryz.prog 144 #[.slice A n c,.int .i64 k0] w fun e w'=>e = .returned (.int .i64 (k0+(aY (bL xs):Int)))/\dD w' (mkC k0 (bL xs)) (.slice A n c) F/\iU F w w':=by
 have hl:xs.length=n:=by have h1:=gQ h;unfold bL at h1;rw [fB (s:=2) (fun _=>rfl)] at h1;omega
 have hn:=jE h
 obtain ⟨Y,W,j⟩:=hd3 hl h hF
 have D:Hid (aY (bL xs)=bZ (xs.flatMap ah.cells)):=by show _=_;rw [bL,aY]
 rw [D.out] at q
 have G:=Hd q
 clear h hF hl
 by_cases am:n=0
 ·subst am
  have hx:xs=[]:=List.eq_nil_of_length_eq_zero Y.out
  subst hx
  go_enter Tryz.func144,Tryz.ntmps144
  go_wp2_with fail
  go_loopw [1,5] (fun v i wr=>v = .int .i64 k0/\i = .int .i64 0/\w=wr) (fun _ _ _=>0)
  ·exact ⟨rfl,rfl,rfl⟩
  obtain ⟨rfl,rfl,rfl⟩:=hrel
  go_wp2_with fail
  go_ret
  exact ⟨aL (by rw [D.out];simp [bZ]),W.out,iU.refl _ _⟩
 obtain ⟨g,rfl,U⟩:=kL (k0:=k0) W.out (by rw [gQ W.out];omega)
 have ad:=Hd U
 clear U W
 go_enter Tryz.func144,Tryz.ntmps144
 go_wp2_with fail
 go_loopw [1,5] (fun v i wr=>∃k:Nat,k<=n/\i = .int .i64 (k:Int)/\v = .int .i64 (k0+(bZ ((xs.flatMap ah.cells).take (k * 2)):Int))/\Mkd F 100 2 n c g k0 (xs.flatMap ah.cells) w wr (k * 2)) (fun _ i _=>n - (intOf i).toNat)
 ·exact ⟨0,by omega,rfl,by simp [bZ],by rw [Nat.zero_mul];exact ad.out⟩
 obtain ⟨k,hk,rfl,rfl,hm⟩:=hrel
 have V:=Hd hm
 clear hm
 by_cases ag:k<n
 ·have u:k<xs.length:=by rw [Y.out];exact ag
  have H:Hid ((xs.flatMap ah.cells)[k * 2]?=some (.int ((xs[k]?.getD ah.zero).block))):=eO (cells:=ah.cells) (s:=2) (z:=ah.zero) (r:=0) (fun _=>rfl) u (by omega)
  have aj:=eF H.out
  have B:Hid ((xs.flatMap ah.cells)[k * 2+1]?=some (.int ((xs[k]?.getD ah.zero).pin))):=eO (cells:=ah.cells) (s:=2) (z:=ah.zero) (r:=1) (fun _=>rfl) u (by omega)
  have ai:=eF B.out
  have az:=gU (xs.flatMap ah.cells) (k * 2+2)
  try simp only [aY] at aj
  try simp only [aY] at ai
  have I:(k+1) * 2=k * 2+2:=by omega
  generalize J:bZ ((xs.flatMap ah.cells).take (k * 2))=K0 at *
  generalize K:bZ ((xs.flatMap ah.cells).take (k * 2+1))=K1 at *
  generalize Q:bZ ((xs.flatMap ah.cells).take (k * 2+2))=K2 at *
  have q:=G.out
  obtain ⟨al,G,ak⟩:=hd3 J K Q
  obtain ⟨i0,i1⟩:=ib (by omega:k<n)
  have R:=Hd I
  clear u I J K Q
  obtain ⟨c0,f0,ax⟩:=V.out.get j.out (by omega) H.out
  have ae:=Hd (V.out.put j.out H.out (y:=k0+(K0:Int)) (by rw [al.out]))
  obtain ⟨c1,f1,av⟩:=V.out.get j.out (by omega) B.out
  have Z:=Hd (ae.out.put j.out B.out (y:=k0+(K0:Int)+1) (by rw [G.out];omega))
  go_wp2_with fail
  go_roundw
  ·exact ⟨k+1,by omega,by go_num,by rw [R.out,ak.out];congr 1;omega,by rw [R.out];exact Z.out⟩
  simp [intOf];omega
 have af:k=n:=by omega
 subst af
 have hd:=V.out.done (by rw [fB (s:=2) (fun _=>rfl),Y.out];exact Nat.le_refl _)
 have HD:=Hd hd
 have HV:Hid (bZ ((xs.flatMap ah.cells).take (k * 2))=aY (bL xs)):=by show _=_;rw [D.out,List.take_of_length_le (by rw [fB (s:=2) (fun _=>rfl),Y.out];exact Nat.le_refl _)]
 rw [HV.out]
 clear hd
 go_wp2_with fail
 go_ret
 exact ⟨rfl,HD.out.1,HD.out.2⟩
theorem vz (A:Option Addr) (n c:Nat) (xs:List Cn) (F:List Nat) (k0:Int) (w:World) (h:dD w (ag xs) (.slice A n c) F) (hF:F.Nodup) (aZ:0<=k0) (D:k0+(aY (ag xs):Int)<=1099511627776) :
  Calls Tryz.prog 62 #[.slice A n c,.int .i64 k0] w fun e w'=>e = .returned (.int .i64 (k0+(aY (ag xs):Int)))/\dD w' (mkC k0 (ag xs)) (.slice A n c) F/\iU F w w':=by
 have hl:xs.length=n:=by have h1:=gQ h;unfold ag at h1;rw [fB (s:=4) (fun _=>rfl)] at h1;omega
 have hn:=jE h
 obtain ⟨HL,HO,j⟩:=hd3 hl h hF
 have B:Hid (aY (ag xs)=bZ (xs.flatMap Cn.cells)):=by show _=_;rw [ag,aY]
 rw [B.out] at D
 have G:=Hd D
 clear h hF hl
 by_cases aF:n=0
 ·subst aF
  have hx:xs=[]:=List.eq_nil_of_length_eq_zero HL.out
  subst hx
  go_enter Tryz.func62,Tryz.ntmps62
  go_wp2_with fail
  go_loopw [1,5] (fun v i wr=>v = .int .i64 k0/\i = .int .i64 0/\w=wr) (fun _ _ _=>0)
  ·exact ⟨rfl,rfl,rfl⟩
  obtain ⟨rfl,rfl,rfl⟩:=hrel
  go_wp2_with fail
  go_ret
  exact ⟨aL (by rw [B.out];simp [bZ]),HO.out,iU.refl _ _⟩
 obtain ⟨g,rfl,U⟩:=kL (k0:=k0) HO.out (by rw [gQ HO.out];omega)
 have aG:=Hd U
 clear U HO
 go_enter Tryz.func62,Tryz.ntmps62
 go_wp2_with fail
 go_loopw [1,5] (fun v i wr=>∃k:Nat,k<=n/\i = .int .i64 (k:Int)/\v = .int .i64 (k0+(bZ ((xs.flatMap Cn.cells).take (k * 4)):Int))/\Mkd F 158 4 n c g k0 (xs.flatMap Cn.cells) w wr (k * 4)) (fun _ i _=>n - (intOf i).toNat)
 ·exact ⟨0,by omega,rfl,by simp [bZ],by rw [Nat.zero_mul];exact aG.out⟩
 obtain ⟨k,hk,rfl,rfl,hm⟩:=hrel
 have HM:=Hd hm
 clear hm
 by_cases az:k<n
 ·have q:k<xs.length:=by rw [HL.out];exact az
  have H:Hid ((xs.flatMap Cn.cells)[k * 4]?=some (.int ((xs[k]?.getD Cn.zero).node))):=eO (cells:=Cn.cells) (s:=4) (z:=Cn.zero) (r:=0) (fun _=>rfl) q (by omega)
  have aD:=eF H.out
  have I:Hid ((xs.flatMap Cn.cells)[k * 4+1]?=some (.int ((xs[k]?.getD Cn.zero).src.block))):=eO (cells:=Cn.cells) (s:=4) (z:=Cn.zero) (r:=1) (fun _=>rfl) q (by omega)
  have aN:=eF I.out
  have K:Hid ((xs.flatMap Cn.cells)[k * 4+2]?=some (.int ((xs[k]?.getD Cn.zero).src.pin))):=eO (cells:=Cn.cells) (s:=4) (z:=Cn.zero) (r:=2) (fun _=>rfl) q (by omega)
  have aK:=eF K.out
  have ap:Hid ((xs.flatMap Cn.cells)[k * 4+3]?=some (bL (xs[k]?.getD Cn.zero).sinks)):=eO (cells:=Cn.cells) (s:=4) (z:=Cn.zero) (r:=3) (fun _=>rfl) q (by omega)
  have aV:=eF ap.out
  have a8:=gU (xs.flatMap Cn.cells) (k * 4+4)
  try simp only [aY] at aD
  try simp only [aY] at aN
  try simp only [aY] at aK
  have Y:(k+1) * 4=k * 4+4:=by omega
  generalize al:bZ ((xs.flatMap Cn.cells).take (k * 4))=K0 at *
  generalize ah:bZ ((xs.flatMap Cn.cells).take (k * 4+1))=K1 at *
  generalize W:bZ ((xs.flatMap Cn.cells).take (k * 4+2))=K2 at *
  generalize aq:bZ ((xs.flatMap Cn.cells).take (k * 4+3))=K3 at *
  generalize ai:bZ ((xs.flatMap Cn.cells).take (k * 4+4))=K4 at *
  generalize Q:aY (bL (xs[k]?.getD Cn.zero).sinks)=q3 at *
  have D:=G.out
  obtain ⟨aE,G,aO,aB,ax,R⟩:=hd6 al ah W aq ai Q
  obtain ⟨i0,i1⟩:=ib (by omega:k<n)
  have ao:=Hd Y
  clear q Y al ah W aq ai Q
  obtain ⟨c0,f0,aC⟩:=HM.out.get j.out (by omega) H.out
  have aA:=Hd (HM.out.put j.out H.out (y:=k0+(K0:Int)) (by rw [aE.out]))
  obtain ⟨c1,f1,av⟩:=HM.out.get j.out (by omega) I.out
  have aw:=Hd (aA.out.put j.out I.out (y:=k0+(K0:Int)+1) (by rw [G.out];omega))
  obtain ⟨c2,f2,ay⟩:=HM.out.get j.out (by omega) K.out
  have aI:=Hd (aw.out.put j.out K.out (y:=k0+(K0:Int)+1+1) (by rw [aO.out];omega))
  obtain ⟨S3,m3,p3,G3,V,am,Z,af,aj⟩:=aI.out.row j.out ap.out
  rw [lK (by omega),lK (by omega),lK (by omega)] at V
  simp only [World.size_setCell] at am
  obtain ⟨J,ak,u⟩:=hd3 Z aj af
  clear Z aj af
  have ad:=jE J.out
  go_wp2_with fail
  refine (xS S3 m3 p3 _ G3 _ _ J.out u.out (by omega) (by rw [R.out];omega)).mono ?_
  rw [R.out]
  rintro _ w1 ⟨rfl,o1,g1⟩
  have aJ:=Hd (ak.out _ w1 (by rw [aB.out];omega) o1 g1)
  clear o1 g1 J ak u ad c0 f0 aC c1 f1 av c2 f2 ay V am
  go_wp2_with fail
  go_roundw
  ·exact ⟨k+1,by omega,by go_num,by rw [ao.out,ax.out];congr 1;omega,by rw [ao.out];exact aJ.out⟩
  simp [intOf];omega
 have aH:k=n:=by omega
 subst aH
 have hd:=HM.out.done (by rw [fB (s:=4) (fun _=>rfl),HL.out];exact Nat.le_refl _)
 have HD:=Hd hd
 have HV:Hid (bZ ((xs.flatMap Cn.cells).take (k * 4))=aY (ag xs)):=by show _=_;rw [B.out,List.take_of_length_le (by rw [fB (s:=4) (fun _=>rfl),HL.out];exact Nat.le_refl _)]
 rw [HV.out]
 clear hd
 go_wp2_with fail
 go_ret
 exact ⟨rfl,HD.out.1,HD.out.2⟩
theorem uz (A:Option Addr) (n c:Nat) (xs:List Rou) (F:List Nat) (k0:Int) (w:World) (h:dD w (bE xs) (.slice A n c) F) (hF:F.Nodup) (aV:0<=k0) (I:k0+(aY (bE xs):Int)<=1099511627776) :
  Calls Tryz.prog 64 #[.slice A n c,.int .i64 k0] w fun e w'=>e = .returned (.int .i64 (k0+(aY (bE xs):Int)))/\dD w' (mkC k0 (bE xs)) (.slice A n c) F/\iU F w w':=by
 have hl:xs.length=n:=by have h1:=gQ h;unfold bE at h1;rw [fB (s:=2) (fun _=>rfl)] at h1;omega
 have hn:=jE h
 obtain ⟨HL,HO,ae⟩:=hd3 hl h hF
 have B:Hid (aY (bE xs)=bZ (xs.flatMap Rou.cells)):=by show _=_;rw [bE,aY]
 rw [B.out] at I
 have J:=Hd I
 clear h hF hl
 by_cases j:n=0
 ·subst j
  have hx:xs=[]:=List.eq_nil_of_length_eq_zero HL.out
  subst hx
  go_enter Tryz.func64,Tryz.ntmps64
  go_wp2_with fail
  go_loopw [1,5] (fun v i wr=>v = .int .i64 k0/\i = .int .i64 0/\w=wr) (fun _ _ _=>0)
  ·exact ⟨rfl,rfl,rfl⟩
  obtain ⟨rfl,rfl,rfl⟩:=hrel
  go_wp2_with fail
  go_ret
  exact ⟨aL (by rw [B.out];simp [bZ]),HO.out,iU.refl _ _⟩
 obtain ⟨g,rfl,U⟩:=kL (k0:=k0) HO.out (by rw [gQ HO.out];omega)
 have aE:=Hd U
 clear U HO
 go_enter Tryz.func64,Tryz.ntmps64
 go_wp2_with fail
 go_loopw [1,5] (fun v i wr=>∃k:Nat,k<=n/\i = .int .i64 (k:Int)/\v = .int .i64 (k0+(bZ ((xs.flatMap Rou.cells).take (k * 2)):Int))/\Mkd F 114 2 n c g k0 (xs.flatMap Rou.cells) w wr (k * 2)) (fun _ i _=>n - (intOf i).toNat)
 ·exact ⟨0,by omega,rfl,by simp [bZ],by rw [Nat.zero_mul];exact aE.out⟩
 obtain ⟨k,hk,rfl,rfl,hm⟩:=hrel
 have HM:=Hd hm
 clear hm
 by_cases az:k<n
 ·have D:k<xs.length:=by rw [HL.out];exact az
  have ak:Hid ((xs.flatMap Rou.cells)[k * 2]?=some (aG (xs[k]?.getD Rou.zero).nodes)):=eO (cells:=Rou.cells) (s:=2) (z:=Rou.zero) (r:=0) (fun _=>rfl) D (by omega)
  have a2:=eF ak.out
  have aq:Hid ((xs.flatMap Rou.cells)[k * 2+1]?=some (aG (xs[k]?.getD Rou.zero).from_)):=eO (cells:=Rou.cells) (s:=2) (z:=Rou.zero) (r:=1) (fun _=>rfl) D (by omega)
  have a8:=eF aq.out
  have a7:=gU (xs.flatMap Rou.cells) (k * 2+2)
  have ad:(k+1) * 2=k * 2+2:=by omega
  generalize ao:bZ ((xs.flatMap Rou.cells).take (k * 2))=K0 at *
  generalize ah:bZ ((xs.flatMap Rou.cells).take (k * 2+1))=K1 at *
  generalize V:bZ ((xs.flatMap Rou.cells).take (k * 2+2))=K2 at *
  generalize R:aY (aG (xs[k]?.getD Rou.zero).nodes)=q0 at *
  generalize ag:aY (aG (xs[k]?.getD Rou.zero).from_)=q1 at *
  have I:=J.out
  obtain ⟨aD,J,aH,aj,am⟩:=hd5 ao ah V R ag
  obtain ⟨i0,i1⟩:=ib (by omega:k<n)
  have ap:=Hd ad
  clear D ad ao ah V R ag
  obtain ⟨S0,m0,p0,G0,aA,aC,W,j,Q⟩:=HM.out.row ae.out ak.out
  obtain ⟨G,K,q⟩:=hd3 W Q j
  clear W Q j
  have ar:=jE G.out
  go_wp2_with fail
  refine (kG S0 m0 p0 _ G0 _ _ G.out q.out (by omega) (by rw [aj.out];omega)).mono ?_
  rw [aj.out]
  rintro _ w1 ⟨rfl,o1,g1⟩
  have aB:=Hd (K.out _ w1 (by rw [aD.out]) o1 g1)
  clear o1 g1 G K q ar aA aC
  obtain ⟨S1,m1,p1,G1,ax,aw,Z,al,af⟩:=aB.out.row ae.out aq.out
  obtain ⟨H,ai,u⟩:=hd3 Z af al
  clear Z af al
  have Y:=jE H.out
  go_wp2_with fail
  refine (kG S1 m1 p1 _ G1 _ _ H.out u.out (by omega) (by rw [am.out];omega)).mono ?_
  rw [am.out]
  rintro _ w2 ⟨rfl,o2,g2⟩
  have ay:=Hd (ai.out _ w2 (by rw [J.out];omega) o2 g2)
  clear o2 g2 H ai u Y ax aw
  go_wp2_with fail
  go_roundw
  ·exact ⟨k+1,by omega,by go_num,by rw [ap.out,aH.out];congr 1;omega,by rw [ap.out];exact ay.out⟩
  simp [intOf];omega
 have aF:k=n:=by omega
 subst aF
 have hd:=HM.out.done (by rw [fB (s:=2) (fun _=>rfl),HL.out];exact Nat.le_refl _)
 have HD:=Hd hd
 have HV:Hid (bZ ((xs.flatMap Rou.cells).take (k * 2))=aY (bE xs)):=by show _=_;rw [B.out,List.take_of_length_le (by rw [fB (s:=2) (fun _=>rfl),HL.out];exact Nat.le_refl _)]
 rw [HV.out]
 clear hd
 go_wp2_with fail
 go_ret
 exact ⟨rfl,HD.out.1,HD.out.2⟩
theorem xU (A:Option Addr) (n c:Nat) (xs:List Lt) (F:List Nat) (k0:Int) (w:World) (h:dD w (bK xs) (.slice A n c) F) (hF:F.Nodup) (aI:0<=k0) (H:k0+(aY (bK xs):Int)<=1099511627776) :
  Calls Tryz.prog 102 #[.slice A n c,.int .i64 k0] w fun e w'=>e = .returned (.int .i64 (k0+(aY (bK xs):Int)))/\dD w' (mkC k0 (bK xs)) (.slice A n c) F/\iU F w w':=by
 have hl:xs.length=n:=by have h1:=gQ h;unfold bK at h1;rw [fB (s:=2) (fun _=>rfl)] at h1;omega
 have hn:=jE h
 obtain ⟨HL,HO,B⟩:=hd3 hl h hF
 have u:Hid (aY (bK xs)=bZ (xs.flatMap Lt.cells)):=by show _=_;rw [bK,aY]
 rw [u.out] at H
 have I:=Hd H
 clear h hF hl
 by_cases j:n=0
 ·subst j
  have hx:xs=[]:=List.eq_nil_of_length_eq_zero HL.out
  subst hx
  go_enter Tryz.func102,Tryz.ntmps102
  go_wp2_with fail
  go_loopw [1,5] (fun v i wr=>v = .int .i64 k0/\i = .int .i64 0/\w=wr) (fun _ _ _=>0)
  ·exact ⟨rfl,rfl,rfl⟩
  obtain ⟨rfl,rfl,rfl⟩:=hrel
  go_wp2_with fail
  go_ret
  exact ⟨aL (by rw [u.out];simp [bZ]),HO.out,iU.refl _ _⟩
 obtain ⟨g,rfl,U⟩:=kL (k0:=k0) HO.out (by rw [gQ HO.out];omega)
 have ar:=Hd U
 clear U HO
 go_enter Tryz.func102,Tryz.ntmps102
 go_wp2_with fail
 go_loopw [1,5] (fun v i wr=>∃k:Nat,k<=n/\i = .int .i64 (k:Int)/\v = .int .i64 (k0+(bZ ((xs.flatMap Lt.cells).take (k * 2)):Int))/\Mkd F 96 2 n c g k0 (xs.flatMap Lt.cells) w wr (k * 2)) (fun _ i _=>n - (intOf i).toNat)
 ·exact ⟨0,by omega,rfl,by simp [bZ],by rw [Nat.zero_mul];exact ar.out⟩
 obtain ⟨k,hk,rfl,rfl,hm⟩:=hrel
 have HM:=Hd hm
 clear hm
 by_cases am:k<n
 ·have D:k<xs.length:=by rw [HL.out];exact am
  have af:Hid ((xs.flatMap Lt.cells)[k * 2]?=some (aG (xs[k]?.getD Lt.zero).ins)):=eO (cells:=Lt.cells) (s:=2) (z:=Lt.zero) (r:=0) (fun _=>rfl) D (by omega)
  have aP:=eF af.out
  have J:Hid ((xs.flatMap Lt.cells)[k * 2+1]?=some (.int ((xs[k]?.getD Lt.zero).mask))):=eO (cells:=Lt.cells) (s:=2) (z:=Lt.zero) (r:=1) (fun _=>rfl) D (by omega)
  have av:=eF J.out
  have aS:=gU (xs.flatMap Lt.cells) (k * 2+2)
  try simp only [aY] at av
  have Y:(k+1) * 2=k * 2+2:=by omega
  generalize ag:bZ ((xs.flatMap Lt.cells).take (k * 2))=K0 at *
  generalize ad:bZ ((xs.flatMap Lt.cells).take (k * 2+1))=K1 at *
  generalize V:bZ ((xs.flatMap Lt.cells).take (k * 2+2))=K2 at *
  generalize R:aY (aG (xs[k]?.getD Lt.zero).ins)=q0 at *
  have H:=I.out
  obtain ⟨aq,I,aw,ae⟩:=hd4 ag ad V R
  obtain ⟨i0,i1⟩:=ib (by omega:k<n)
  have ah:=Hd Y
  clear D Y ag ad V R
  obtain ⟨S0,m0,p0,G0,ao,ap,W,j,Q⟩:=HM.out.row B.out af.out
  obtain ⟨G,K,q⟩:=hd3 W Q j
  clear W Q j
  have ai:=jE G.out
  go_wp2_with fail
  refine (kG S0 m0 p0 _ G0 _ _ G.out q.out (by omega) (by rw [ae.out];omega)).mono ?_
  rw [ae.out]
  rintro _ w1 ⟨rfl,o1,g1⟩
  have Z:=Hd (K.out _ w1 (by rw [aq.out]) o1 g1)
  clear o1 g1 G K q ai ao ap
  obtain ⟨c1,f1,aF⟩:=Z.out.get B.out (by omega) J.out
  have al:=Hd (Z.out.put B.out J.out (y:=k0+(K0:Int)+(q0:Int)) (by rw [I.out];omega))
  go_wp2_with fail
  go_roundw
  ·exact ⟨k+1,by omega,by go_num,by rw [ah.out,aw.out];congr 1;omega,by rw [ah.out];exact al.out⟩
  simp [intOf];omega
 have au:k=n:=by omega
 subst au
 have hd:=HM.out.done (by rw [fB (s:=2) (fun _=>rfl),HL.out];exact Nat.le_refl _)
 have HD:=Hd hd
 have HV:Hid (bZ ((xs.flatMap Lt.cells).take (k * 2))=aY (bK xs)):=by show _=_;rw [u.out,List.take_of_length_le (by rw [fB (s:=2) (fun _=>rfl),HL.out];exact Nat.le_refl _)]
 rw [HV.out]
 clear hd
 go_wp2_with fail
 go_ret
 exact ⟨rfl,HD.out.1,HD.out.2⟩
theorem xV (A:Option Addr) (n c:Nat) (xs:List Sq) (F:List Nat) (k0:Int) (w:World) (h:dD w (bD xs) (.slice A n c) F) (hF:F.Nodup) (aS:0<=k0) (D:k0+(aY (bD xs):Int)<=1099511627776) :
  Calls Tryz.prog 101 #[.slice A n c,.int .i64 k0] w fun e w'=>e = .returned (.int .i64 (k0+(aY (bD xs):Int)))/\dD w' (mkC k0 (bD xs)) (.slice A n c) F/\iU F w w':=by
 have hl:xs.length=n:=by have h1:=gQ h;unfold bD at h1;rw [fB (s:=3) (fun _=>rfl)] at h1;omega
 have hn:=jE h
 obtain ⟨HL,HO,j⟩:=hd3 hl h hF
 have B:Hid (aY (bD xs)=bZ (xs.flatMap Sq.cells)):=by show _=_;rw [bD,aY]
 rw [B.out] at D
 have G:=Hd D
 clear h hF hl
 by_cases aA:n=0
 ·subst aA
  have hx:xs=[]:=List.eq_nil_of_length_eq_zero HL.out
  subst hx
  go_enter Tryz.func101,Tryz.ntmps101
  go_wp2_with fail
  go_loopw [1,5] (fun v i wr=>v = .int .i64 k0/\i = .int .i64 0/\w=wr) (fun _ _ _=>0)
  ·exact ⟨rfl,rfl,rfl⟩
  obtain ⟨rfl,rfl,rfl⟩:=hrel
  go_wp2_with fail
  go_ret
  exact ⟨aL (by rw [B.out];simp [bZ]),HO.out,iU.refl _ _⟩
 obtain ⟨g,rfl,R⟩:=kL (k0:=k0) HO.out (by rw [gQ HO.out];omega)
 have aB:=Hd R
 clear R HO
 go_enter Tryz.func101,Tryz.ntmps101
 go_wp2_with fail
 go_loopw [1,5] (fun v i wr=>∃k:Nat,k<=n/\i = .int .i64 (k:Int)/\v = .int .i64 (k0+(bZ ((xs.flatMap Sq.cells).take (k * 3)):Int))/\Mkd F 91 3 n c g k0 (xs.flatMap Sq.cells) w wr (k * 3)) (fun _ i _=>n - (intOf i).toNat)
 ·exact ⟨0,by omega,rfl,by simp [bZ],by rw [Nat.zero_mul];exact aB.out⟩
 obtain ⟨k,hk,rfl,rfl,hm⟩:=hrel
 have HM:=Hd hm
 clear hm
 by_cases au:k<n
 ·have q:k<xs.length:=by rw [HL.out];exact au
  have H:Hid ((xs.flatMap Sq.cells)[k * 3]?=some (.int ((xs[k]?.getD Sq.zero).kind))):=eO (cells:=Sq.cells) (s:=3) (z:=Sq.zero) (r:=0) (fun _=>rfl) q (by omega)
  have ay:=eF H.out
  have J:Hid ((xs.flatMap Sq.cells)[k * 3+1]?=some (.int ((xs[k]?.getD Sq.zero).init))):=eO (cells:=Sq.cells) (s:=3) (z:=Sq.zero) (r:=1) (fun _=>rfl) q (by omega)
  have aE:=eF J.out
  have ak:Hid ((xs.flatMap Sq.cells)[k * 3+2]?=some (aG (xs[k]?.getD Sq.zero).ins)):=eO (cells:=Sq.cells) (s:=3) (z:=Sq.zero) (r:=2) (fun _=>rfl) q (by omega)
  have aZ:=eF ak.out
  have a2:=gU (xs.flatMap Sq.cells) (k * 3+3)
  try simp only [aY] at ay
  try simp only [aY] at aE
  have Z:(k+1) * 3=k * 3+3:=by omega
  generalize ag:bZ ((xs.flatMap Sq.cells).take (k * 3))=K0 at *
  generalize af:bZ ((xs.flatMap Sq.cells).take (k * 3+1))=K1 at *
  generalize W:bZ ((xs.flatMap Sq.cells).take (k * 3+2))=K2 at *
  generalize al:bZ ((xs.flatMap Sq.cells).take (k * 3+3))=K3 at *
  generalize K:aY (aG (xs[k]?.getD Sq.zero).ins)=q2 at *
  have D:=G.out
  obtain ⟨az,G,aF,aw,V⟩:=hd5 ag af W al K
  obtain ⟨i0,i1⟩:=ib (by omega:k<n)
  have ah:=Hd Z
  clear q Z ag af W al K
  obtain ⟨c0,f0,ax⟩:=HM.out.get j.out (by omega) H.out
  have av:=Hd (HM.out.put j.out H.out (y:=k0+(K0:Int)) (by rw [az.out]))
  obtain ⟨c1,f1,aq⟩:=HM.out.get j.out (by omega) J.out
  have ar:=Hd (av.out.put j.out J.out (y:=k0+(K0:Int)+1) (by rw [G.out];omega))
  obtain ⟨S2,m2,p2,G2,ai,U,Q,ae,aj⟩:=ar.out.row j.out ak.out
  rw [lK (by omega),lK (by omega)] at ai
  simp only [World.size_setCell] at U
  obtain ⟨I,Y,u⟩:=hd3 Q aj ae
  clear Q aj ae
  have ad:=jE I.out
  go_wp2_with fail
  refine (kG S2 m2 p2 _ G2 _ _ I.out u.out (by omega) (by rw [V.out];omega)).mono ?_
  rw [V.out]
  rintro _ w1 ⟨rfl,o1,g1⟩
  have aD:=Hd (Y.out _ w1 (by rw [aF.out];omega) o1 g1)
  clear o1 g1 I Y u ad c0 f0 ax c1 f1 aq ai U
  go_wp2_with fail
  go_roundw
  ·exact ⟨k+1,by omega,by go_num,by rw [ah.out,aw.out];congr 1;omega,by rw [ah.out];exact aD.out⟩
  simp [intOf];omega
 have aC:k=n:=by omega
 subst aC
 have hd:=HM.out.done (by rw [fB (s:=3) (fun _=>rfl),HL.out];exact Nat.le_refl _)
 have HD:=Hd hd
 have HV:Hid (bZ ((xs.flatMap Sq.cells).take (k * 3))=aY (bD xs)):=by show _=_;rw [B.out,List.take_of_length_le (by rw [fB (s:=3) (fun _=>rfl),HL.out];exact Nat.le_refl _)]
 rw [HV.out]
 clear hd
 go_wp2_with fail
 go_ret
 exact ⟨rfl,HD.out.1,HD.out.2⟩
theorem tZ (A:Option Addr) (n c:Nat) (xs:List (List Int)) (F:List Nat) (k0:Int) (w:World) (h:dD w (bg xs) (.slice A n c) F) (hF:F.Nodup) (aC:0<=k0) (z:k0+(aY (bg xs):Int)<=1099511627776) :
  Calls Tryz.prog 65 #[.slice A n c,.int .i64 k0] w fun e w'=>e = .returned (.int .i64 (k0+(aY (bg xs):Int)))/\dD w' (mkC k0 (bg xs)) (.slice A n c) F/\iU F w w':=by
 have hl:xs.length=n:=by have h1:=gQ h;unfold bg at h1;rw [List.length_map,Nat.mul_one] at h1;exact h1
 have hn:=jE h
 obtain ⟨HL,HO,ai⟩:=hd3 hl h hF
 have B:Hid (aY (bg xs)=bZ (xs.map aG)):=by show _=_;rw [bg,aY]
 rw [B.out] at z
 have D:=Hd z
 clear h hF hl
 by_cases j:n=0
 ·subst j
  have hx:xs=[]:=List.eq_nil_of_length_eq_zero HL.out
  subst hx
  go_enter Tryz.func65,Tryz.ntmps65
  go_wp2_with fail
  go_loopw [1,5] (fun v i wr=>v = .int .i64 k0/\i = .int .i64 0/\w=wr) (fun _ _ _=>0)
  ·exact ⟨rfl,rfl,rfl⟩
  obtain ⟨rfl,rfl,rfl⟩:=hrel
  go_wp2_with fail
  go_ret
  exact ⟨aL (by rw [B.out];simp [bZ]),HO.out,iU.refl _ _⟩
 obtain ⟨g,rfl,W⟩:=kL (k0:=k0) HO.out (by rw [gQ HO.out];omega)
 have ah:=Hd W
 clear W HO
 go_enter Tryz.func65,Tryz.ntmps65
 go_wp2_with fail
 go_loopw [1,5] (fun v i wr=>∃k:Nat,k<=n/\i = .int .i64 (k:Int)/\v = .int .i64 (k0+(bZ ((xs.map aG).take (k * 1)):Int))/\Mkd F 26 1 n c g k0 (xs.map aG) w wr (k * 1)) (fun _ i _=>n - (intOf i).toNat)
 ·exact ⟨0,by omega,rfl,by simp [bZ],by rw [Nat.zero_mul];exact ah.out⟩
 obtain ⟨k,hk,rfl,rfl,hm⟩:=hrel
 have HM:=Hd hm
 clear hm
 by_cases am:k<n
 ·have K:k<xs.length:=by rw [HL.out];exact am
  have Y:Hid ((xs.map aG)[k * 1]?=some (aG (xs[k]?.getD []))):=by show _=_;rw [Nat.mul_one,List.getElem?_map,List.getElem?_eq_getElem K];rfl
  have aF:=eF Y.out
  have aD:=gU (xs.map aG) (k * 1+1)
  have G:(k+1) * 1=k * 1+1:=by omega
  generalize J:bZ ((xs.map aG).take (k * 1))=K0 at *
  generalize Q:bZ ((xs.map aG).take (k * 1+1))=K1 at *
  generalize U:aY (aG (xs[k]?.getD []))=q0 at *
  have z:=D.out
  obtain ⟨ao,D,V⟩:=hd3 J Q U
  obtain ⟨i0,i1⟩:=ib (by omega:k<n)
  have R:=Hd G
  clear K G J Q U
  obtain ⟨S0,m0,p0,G0,Z,ak,ae,j,I⟩:=HM.out.row ai.out Y.out
  rw [Nat.mul_one] at Z
  obtain ⟨u,H,q⟩:=hd3 ae I j
  clear ae I j
  have ad:=jE u.out
  go_wp2_with fail
  refine (kG S0 m0 p0 _ G0 _ _ u.out q.out (by omega) (by rw [V.out];omega)).mono ?_
  rw [V.out]
  rintro _ w1 ⟨rfl,o1,g1⟩
  have aj:=Hd (H.out _ w1 (by rw [ao.out]) o1 g1)
  clear o1 g1 u H q ad Z ak
  go_wp2_with fail
  go_roundw
  ·exact ⟨k+1,by omega,by go_num,by rw [R.out,D.out];congr 1;omega,by rw [R.out];exact aj.out⟩
  simp [intOf];omega
 have al:k=n:=by omega
 subst al
 have hd:=HM.out.done (by rw [List.length_map,Nat.mul_one,HL.out];exact Nat.le_refl _)
 have HD:=Hd hd
 have HV:Hid (bZ ((xs.map aG).take (k * 1))=aY (bg xs)):=by show _=_;rw [B.out,List.take_of_length_le (by rw [List.length_map,Nat.mul_one,HL.out];exact Nat.le_refl _)]
 rw [HV.out]
 clear hd
 go_wp2_with fail
 go_ret
 exact ⟨rfl,HD.out.1,HD.out.2⟩
theorem mM {P:Program} {f:FuncId} {i j n p:Nat} {W w:World} {z:List Pc} {cs:List Cel} {vs:List Value} {c:Cel} {A:Option Addr} {k0:Int} (h:aJ W w z) (hi:z[i]?=some (.cels cs vs)) (hc:cs[j]?=some c) (G:vs[j]?=some (.slice A n p))
  (hf:∀F,dD w c (.slice A n p) F→F.Nodup→Calls P f #[.slice A n p,.int .i64 k0] w fun e w'=>e = .returned (.int .i64 (k0+(aY c:Int)))/\dD w' (mkC k0 c) (.slice A n p) F/\iU F w w') :
  Calls P f #[.slice A n p,.int .i64 k0] w fun e w'=>e = .returned (.int .i64 (k0+(aY c:Int)))/\aJ W w' (z.set i (.cels (cs.set j (mkC k0 c)) vs)):=by
 obtain ⟨F,h1,h2,h3,h4⟩:=h.part i hi
 have q:ek w cs vs F:=h1
 obtain ⟨V,U,Y,H,F2,e1,e2,rfl,h5,Q⟩:=q.at_ (List.getElem?_eq_some_iff.1 hc).1
 rw [hc] at e1
 rw [G] at e2
 injection e1 with e1
 injection e2 with e2
 subst e1 e2
 have u:=h2
 rw [List.nodup_append,List.nodup_append] at h2
 obtain ⟨n1,⟨n2,n3,K⟩,J⟩:=h2
 have g:=q.lt
 refine (hf H h5 n2).mono ?_
 rintro e w' ⟨rfl,R,D⟩
 have I:=Q w' _ _ H R (fun k hk=>D.block k (g k (by simp [hk])) fun B=>J k hk k (by simp [B]) rfl) (fun k hk=>D.block k (g k (by simp [hk])) fun B=>K k B k hk rfl)
 rw [yV G] at I
 exact ⟨rfl,h4 w' _ _ I u (fun k hk => .inl hk) (D.more fun k hk=>by simp [hk])⟩
theorem oQ {α:Type} {l:List α} {i:Nat} {x y:α} (h:l[i]?=some x):(l.set i y)[i]?=some y:=List.getElem?_set_self (List.getElem?_eq_some_iff.1 h).1
theorem vB (q inputs:Int) (SA LA OA:Option Addr) (sn sc ln lc on oc:Nat) (sq:List Sq) (lt:List Lt) (ou:List Int) (u:List Cel) (z:Value) (B:List Value) (W:World) (G:List Pc) (i:Nat) (k0:Int) (w:World) (h:aJ W w G) (hi:G[i]?=some (.cels (.int q :: bD sq :: bK lt :: aG ou :: u) (z :: .slice SA sn sc :: .slice LA ln lc :: .slice OA on oc :: B))) (au:0<=k0) (aq:k0+((aY (bD sq)+aY (bK lt)+aY (aG ou):Nat):Int)<=1099511627776) :
  Calls Tryz.prog 29 #[.agg #[.int .i64 inputs,.slice SA sn sc,.slice LA ln lc,.slice OA on oc],.int .i64 k0] w fun e w'=>e = .returned (.int .i64 (k0+(aY (bD sq):Int)+(aY (bK lt):Int)+(aY (aG ou):Int)))/\aJ W w' (G.set i (.cels (.int q :: mkC (k0) (bD sq) :: mkC (k0+(aY (bD sq):Int)) (bK lt) :: mkC (k0+(aY (bD sq):Int)+(aY (bK lt):Int)) (aG ou) :: u) (z :: .slice SA sn sc :: .slice LA ln lc :: .slice OA on oc :: B))):=by
 have HO:=Hd (h.consBlk #[.int .i64 inputs,.slice SA sn sc,.slice LA ln lc,.slice OA on oc] 41)
 have Y:(Pc.blk w.heap.size #[.int .i64 inputs,.slice SA sn sc,.slice LA ln lc,.slice OA on oc] 41 :: G)[i+1]?=some (.cels (.int q :: bD sq :: bK lt :: aG ou :: u) (z :: .slice SA sn sc :: .slice LA ln lc :: .slice OA on oc :: B)):=hi
 have Z:=Hd Y
 clear h hi Y
 generalize K:aY (bD sq)=H at *
 have U:=Hd K
 generalize Q:aY (bK lt)=q2 at *
 have ad:=Hd Q
 generalize R:aY (aG ou)=q3 at *
 have V:=Hd R
 clear K Q R
 go_enter Tryz.func29,Tryz.ntmps29
 go_upto_region 1 with fail
 obtain ⟨gx,D⟩:∃g,w.heap.size=g:=⟨_,rfl⟩
 rw [D] at HO Z
 (try rw [D])
 clear D
 generalize w.alloc (.cells #[.int .i64 inputs,.slice SA sn sc,.slice LA ln lc,.slice OA on oc] 41)=W0 at *
 obtain ⟨-,x1,lx⟩:=fZ ((HO.out.blk 0 rfl).1)
 go_wp2_with fail
 refine (mM (i:=i+1) (j:=1) HO.out Z.out rfl rfl (fun F a b=>xV SA sn sc _ F _ _ a b (by omega) (by rw [U.out];omega))).mono ?_
 rw [U.out]
 rintro _ w0 ⟨rfl,o0⟩
 have I:Hid (aJ W w0 ((Pc.blk gx #[.int .i64 inputs,.slice SA sn sc,.slice LA ln lc,.slice OA on oc] 41 :: G).set (i+1) (.cels (.int q :: mkC (k0) (bD sq) :: bK lt :: aG ou :: u) (z :: .slice SA sn sc :: .slice LA ln lc :: .slice OA on oc :: B)))):=Hd o0
 have ai:=Hd (oQ (y:=Pc.cels (.int q :: mkC (k0) (bD sq) :: bK lt :: aG ou :: u) (z :: .slice SA sn sc :: .slice LA ln lc :: .slice OA on oc :: B)) Z.out)
 clear o0 lx x1
 obtain ⟨-,-,x2,lx⟩:=jU ((I.out.blk 0 rfl).1)
 go_wp2_with fail
 refine (mM (i:=i+1) (j:=2) I.out ai.out rfl rfl (fun F a b=>xU LA ln lc _ F _ _ a b (by omega) (by rw [ad.out];omega))).mono ?_
 rw [ad.out]
 rintro _ w1 ⟨rfl,o1⟩
 rw [List.set_set] at o1
 have J:Hid (aJ W w1 ((Pc.blk gx #[.int .i64 inputs,.slice SA sn sc,.slice LA ln lc,.slice OA on oc] 41 :: G).set (i+1) (.cels (.int q :: mkC (k0) (bD sq) :: mkC (k0+(H:Int)) (bK lt) :: aG ou :: u) (z :: .slice SA sn sc :: .slice LA ln lc :: .slice OA on oc :: B)))):=Hd o1
 have al:=Hd (oQ (y:=Pc.cels (.int q :: mkC (k0) (bD sq) :: mkC (k0+(H:Int)) (bK lt) :: aG ou :: u) (z :: .slice SA sn sc :: .slice LA ln lc :: .slice OA on oc :: B)) Z.out)
 clear o1 lx x2
 obtain ⟨-,-,-,x3,lx⟩:=bX ((J.out.blk 0 rfl).1)
 go_wp2_with fail
 refine (mM (i:=i+1) (j:=3) J.out al.out rfl rfl (fun F a b=>kG OA on oc _ F _ _ a b (by omega) (by rw [V.out];omega))).mono ?_
 rw [V.out]
 rintro _ w2 ⟨rfl,o2⟩
 rw [List.set_set] at o2
 have ag:Hid (aJ W w2 ((Pc.blk gx #[.int .i64 inputs,.slice SA sn sc,.slice LA ln lc,.slice OA on oc] 41 :: G).set (i+1) (.cels (.int q :: mkC (k0) (bD sq) :: mkC (k0+(H:Int)) (bK lt) :: mkC (k0+(H:Int)+(q2:Int)) (aG ou) :: u) (z :: .slice SA sn sc :: .slice LA ln lc :: .slice OA on oc :: B)))):=Hd o2
 have ar:=Hd (oQ (y:=Pc.cels (.int q :: mkC (k0) (bD sq) :: mkC (k0+(H:Int)) (bK lt) :: mkC (k0+(H:Int)+(q2:Int)) (aG ou) :: u) (z :: .slice SA sn sc :: .slice LA ln lc :: .slice OA on oc :: B)) Z.out)
 clear o2 lx x3
 go_wp2_with fail
 go_ret
 exact ⟨rfl,ag.out.tail⟩
theorem vC (B:Int) (x:Lay) (SA LA OA BA CA PA RA:Option Addr) (sn sc ln lc on oc bn bc cn cc pn pc rn rc:Nat) (W:World) (G:List Pc) (i:Nat) (k0:Int) (w:World) (h:aJ W w G) (hi:G[i]?=some (.cels [.int B,bD x.net.seqs,bK x.net.luts,aG x.net.outs,aa x.blocks,ag x.conns,aG x.place,bE x.routes] [.int .i64 x.net.inputs,.slice SA sn sc,.slice LA ln lc,.slice OA on oc,.slice BA bn bc,.slice CA cn cc,.slice PA pn pc,.slice RA rn rc])) (aK:0<=k0) (aO:k0+((aY (bD x.net.seqs)+aY (bK x.net.luts)+aY (aG x.net.outs)+aY (aa x.blocks)+aY (ag x.conns)+aY (aG x.place)+aY (bE x.routes):Nat):Int)<=1099511627776) :
  Calls Tryz.prog 16 #[.agg #[.int .i64 x.net.inputs,.slice SA sn sc,.slice LA ln lc,.slice OA on oc,.slice BA bn bc,.slice CA cn cc,.slice PA pn pc,.slice RA rn rc],.int .i64 k0] w fun e w'=>e = .returned (.int .i64 (k0+(aY (bD x.net.seqs):Int)+(aY (bK x.net.luts):Int)+(aY (aG x.net.outs):Int)+(aY (aa x.blocks):Int)+(aY (ag x.conns):Int)+(aY (aG x.place):Int)+(aY (bE x.routes):Int)))/\aJ W w' (G.set i (.cels [.int B,mkC (k0) (bD x.net.seqs),mkC (k0+(aY (bD x.net.seqs):Int)) (bK x.net.luts),mkC (k0+(aY (bD x.net.seqs):Int)+(aY (bK x.net.luts):Int)) (aG x.net.outs),mkC (k0+(aY (bD x.net.seqs):Int)+(aY (bK x.net.luts):Int)+(aY (aG x.net.outs):Int)) (aa x.blocks),mkC (k0+(aY (bD x.net.seqs):Int)+(aY (bK x.net.luts):Int)+(aY (aG x.net.outs):Int)+(aY (aa x.blocks):Int)) (ag x.conns),mkC (k0+(aY (bD x.net.seqs):Int)+(aY (bK x.net.luts):Int)+(aY (aG x.net.outs):Int)+(aY (aa x.blocks):Int)+(aY (ag x.conns):Int)) (aG x.place),mkC (k0+(aY (bD x.net.seqs):Int)+(aY (bK x.net.luts):Int)+(aY (aG x.net.outs):Int)+(aY (aa x.blocks):Int)+(aY (ag x.conns):Int)+(aY (aG x.place):Int)) (bE x.routes)] [.int .i64 x.net.inputs,.slice SA sn sc,.slice LA ln lc,.slice OA on oc,.slice BA bn bc,.slice CA cn cc,.slice PA pn pc,.slice RA rn rc])):=by
 have HO:=Hd (h.consBlk #[.int .i64 x.net.inputs,.slice SA sn sc,.slice LA ln lc,.slice OA on oc,.slice BA bn bc,.slice CA cn cc,.slice PA pn pc,.slice RA rn rc] 46)
 have ad:(Pc.blk w.heap.size #[.int .i64 x.net.inputs,.slice SA sn sc,.slice LA ln lc,.slice OA on oc,.slice BA bn bc,.slice CA cn cc,.slice PA pn pc,.slice RA rn rc] 46 :: G)[i+1]?=some (.cels [.int B,bD x.net.seqs,bK x.net.luts,aG x.net.outs,aa x.blocks,ag x.conns,aG x.place,bE x.routes] [.int .i64 x.net.inputs,.slice SA sn sc,.slice LA ln lc,.slice OA on oc,.slice BA bn bc,.slice CA cn cc,.slice PA pn pc,.slice RA rn rc]):=hi
 have J:=Hd ad
 clear h hi ad
 generalize ai:aY (bD x.net.seqs)=q at *
 have ao:=Hd ai
 generalize Q:aY (bK x.net.luts)=u at *
 have Y:=Hd Q
 generalize R:aY (aG x.net.outs)=z at *
 have U:=Hd R
 generalize au:aY (aa x.blocks)=D at *
 have ar:=Hd au
 generalize aq:aY (ag x.conns)=K at *
 have ae:=Hd aq
 generalize ak:aY (aG x.place)=q6 at *
 have al:=Hd ak
 generalize V:aY (bE x.routes)=q7 at *
 have Z:=Hd V
 clear ai Q R au aq ak V
 go_enter Tryz.func16,Tryz.ntmps16
 go_upto_region 1 with fail
 obtain ⟨gx,I⟩:∃g,w.heap.size=g:=⟨_,rfl⟩
 rw [I] at HO J
 (try rw [I])
 clear I
 generalize w.alloc (.cells #[.int .i64 x.net.inputs,.slice SA sn sc,.slice LA ln lc,.slice OA on oc,.slice BA bn bc,.slice CA cn cc,.slice PA pn pc,.slice RA rn rc] 46)=W0 at *
 obtain ⟨x0,x1,x2,x3,H⟩:=bX ((HO.out.blk 0 rfl).1)
 go_wp2_with fail
 refine (vB _ _ SA LA OA sn sc ln lc on oc _ _ _ _ _ _ W _ (i+1) _ _ HO.out J.out (by omega) (by rw [ao.out,Y.out,U.out];omega)).mono ?_
 rw [ao.out,Y.out,U.out]
 rintro _ w0 ⟨rfl,o0⟩
 have af:Hid (aJ W w0 ((Pc.blk gx #[.int .i64 x.net.inputs,.slice SA sn sc,.slice LA ln lc,.slice OA on oc,.slice BA bn bc,.slice CA cn cc,.slice PA pn pc,.slice RA rn rc] 46 :: G).set (i+1) (.cels [.int B,mkC (k0) (bD x.net.seqs),mkC (k0+(q:Int)) (bK x.net.luts),mkC (k0+(q:Int)+(u:Int)) (aG x.net.outs),aa x.blocks,ag x.conns,aG x.place,bE x.routes] [.int .i64 x.net.inputs,.slice SA sn sc,.slice LA ln lc,.slice OA on oc,.slice BA bn bc,.slice CA cn cc,.slice PA pn pc,.slice RA rn rc]))):=Hd o0
 have aA:=Hd (oQ (y:=Pc.cels [.int B,mkC (k0) (bD x.net.seqs),mkC (k0+(q:Int)) (bK x.net.luts),mkC (k0+(q:Int)+(u:Int)) (aG x.net.outs),aa x.blocks,ag x.conns,aG x.place,bE x.routes] [.int .i64 x.net.inputs,.slice SA sn sc,.slice LA ln lc,.slice OA on oc,.slice BA bn bc,.slice CA cn cc,.slice PA pn pc,.slice RA rn rc]) J.out)
 clear o0 H x0 x1 x2 x3
 obtain ⟨-,-,-,-,x4,H⟩:=Fb ((af.out.blk 0 rfl).1)
 go_wp2_with fail
 refine (mM (i:=i+1) (j:=4) af.out aA.out rfl rfl (fun F a b=>uy BA bn bc _ F _ _ a b (by omega) (by rw [ar.out];omega))).mono ?_
 rw [ar.out]
 rintro _ w1 ⟨rfl,o1⟩
 rw [List.set_set] at o1
 have ah:Hid (aJ W w1 ((Pc.blk gx #[.int .i64 x.net.inputs,.slice SA sn sc,.slice LA ln lc,.slice OA on oc,.slice BA bn bc,.slice CA cn cc,.slice PA pn pc,.slice RA rn rc] 46 :: G).set (i+1) (.cels [.int B,mkC (k0) (bD x.net.seqs),mkC (k0+(q:Int)) (bK x.net.luts),mkC (k0+(q:Int)+(u:Int)) (aG x.net.outs),mkC (k0+(q:Int)+(u:Int)+(z:Int)) (aa x.blocks),ag x.conns,aG x.place,bE x.routes] [.int .i64 x.net.inputs,.slice SA sn sc,.slice LA ln lc,.slice OA on oc,.slice BA bn bc,.slice CA cn cc,.slice PA pn pc,.slice RA rn rc]))):=Hd o1
 have aE:=Hd (oQ (y:=Pc.cels [.int B,mkC (k0) (bD x.net.seqs),mkC (k0+(q:Int)) (bK x.net.luts),mkC (k0+(q:Int)+(u:Int)) (aG x.net.outs),mkC (k0+(q:Int)+(u:Int)+(z:Int)) (aa x.blocks),ag x.conns,aG x.place,bE x.routes] [.int .i64 x.net.inputs,.slice SA sn sc,.slice LA ln lc,.slice OA on oc,.slice BA bn bc,.slice CA cn cc,.slice PA pn pc,.slice RA rn rc]) J.out)
 clear o1 H x4
 obtain ⟨-,-,-,-,-,x5,H⟩:=FR ((ah.out.blk 0 rfl).1)
 go_wp2_with fail
 refine (mM (i:=i+1) (j:=5) ah.out aE.out rfl rfl (fun F a b=>vz CA cn cc _ F _ _ a b (by omega) (by rw [ae.out];omega))).mono ?_
 rw [ae.out]
 rintro _ w2 ⟨rfl,o2⟩
 rw [List.set_set] at o2
 have am:Hid (aJ W w2 ((Pc.blk gx #[.int .i64 x.net.inputs,.slice SA sn sc,.slice LA ln lc,.slice OA on oc,.slice BA bn bc,.slice CA cn cc,.slice PA pn pc,.slice RA rn rc] 46 :: G).set (i+1) (.cels [.int B,mkC (k0) (bD x.net.seqs),mkC (k0+(q:Int)) (bK x.net.luts),mkC (k0+(q:Int)+(u:Int)) (aG x.net.outs),mkC (k0+(q:Int)+(u:Int)+(z:Int)) (aa x.blocks),mkC (k0+(q:Int)+(u:Int)+(z:Int)+(D:Int)) (ag x.conns),aG x.place,bE x.routes] [.int .i64 x.net.inputs,.slice SA sn sc,.slice LA ln lc,.slice OA on oc,.slice BA bn bc,.slice CA cn cc,.slice PA pn pc,.slice RA rn rc]))):=Hd o2
 have az:=Hd (oQ (y:=Pc.cels [.int B,mkC (k0) (bD x.net.seqs),mkC (k0+(q:Int)) (bK x.net.luts),mkC (k0+(q:Int)+(u:Int)) (aG x.net.outs),mkC (k0+(q:Int)+(u:Int)+(z:Int)) (aa x.blocks),mkC (k0+(q:Int)+(u:Int)+(z:Int)+(D:Int)) (ag x.conns),aG x.place,bE x.routes] [.int .i64 x.net.inputs,.slice SA sn sc,.slice LA ln lc,.slice OA on oc,.slice BA bn bc,.slice CA cn cc,.slice PA pn pc,.slice RA rn rc]) J.out)
 clear o2 H x5
 obtain ⟨-,-,-,-,-,-,x6,H⟩:=Fe ((am.out.blk 0 rfl).1)
 go_wp2_with fail
 refine (mM (i:=i+1) (j:=6) am.out az.out rfl rfl (fun F a b=>kG PA pn pc _ F _ _ a b (by omega) (by rw [al.out];omega))).mono ?_
 rw [al.out]
 rintro _ w3 ⟨rfl,o3⟩
 rw [List.set_set] at o3
 have ap:Hid (aJ W w3 ((Pc.blk gx #[.int .i64 x.net.inputs,.slice SA sn sc,.slice LA ln lc,.slice OA on oc,.slice BA bn bc,.slice CA cn cc,.slice PA pn pc,.slice RA rn rc] 46 :: G).set (i+1) (.cels [.int B,mkC (k0) (bD x.net.seqs),mkC (k0+(q:Int)) (bK x.net.luts),mkC (k0+(q:Int)+(u:Int)) (aG x.net.outs),mkC (k0+(q:Int)+(u:Int)+(z:Int)) (aa x.blocks),mkC (k0+(q:Int)+(u:Int)+(z:Int)+(D:Int)) (ag x.conns),mkC (k0+(q:Int)+(u:Int)+(z:Int)+(D:Int)+(K:Int)) (aG x.place),bE x.routes] [.int .i64 x.net.inputs,.slice SA sn sc,.slice LA ln lc,.slice OA on oc,.slice BA bn bc,.slice CA cn cc,.slice PA pn pc,.slice RA rn rc]))):=Hd o3
 have aD:=Hd (oQ (y:=Pc.cels [.int B,mkC (k0) (bD x.net.seqs),mkC (k0+(q:Int)) (bK x.net.luts),mkC (k0+(q:Int)+(u:Int)) (aG x.net.outs),mkC (k0+(q:Int)+(u:Int)+(z:Int)) (aa x.blocks),mkC (k0+(q:Int)+(u:Int)+(z:Int)+(D:Int)) (ag x.conns),mkC (k0+(q:Int)+(u:Int)+(z:Int)+(D:Int)+(K:Int)) (aG x.place),bE x.routes] [.int .i64 x.net.inputs,.slice SA sn sc,.slice LA ln lc,.slice OA on oc,.slice BA bn bc,.slice CA cn cc,.slice PA pn pc,.slice RA rn rc]) J.out)
 clear o3 H x6
 obtain ⟨-,-,-,-,-,-,-,x7,H⟩:=j6 ((ap.out.blk 0 rfl).1)
 go_wp2_with fail
 refine (mM (i:=i+1) (j:=7) ap.out aD.out rfl rfl (fun F a b=>uz RA rn rc _ F _ _ a b (by omega) (by rw [Z.out];omega))).mono ?_
 rw [Z.out]
 rintro _ w4 ⟨rfl,o4⟩
 rw [List.set_set] at o4
 have aw:Hid (aJ W w4 ((Pc.blk gx #[.int .i64 x.net.inputs,.slice SA sn sc,.slice LA ln lc,.slice OA on oc,.slice BA bn bc,.slice CA cn cc,.slice PA pn pc,.slice RA rn rc] 46 :: G).set (i+1) (.cels [.int B,mkC (k0) (bD x.net.seqs),mkC (k0+(q:Int)) (bK x.net.luts),mkC (k0+(q:Int)+(u:Int)) (aG x.net.outs),mkC (k0+(q:Int)+(u:Int)+(z:Int)) (aa x.blocks),mkC (k0+(q:Int)+(u:Int)+(z:Int)+(D:Int)) (ag x.conns),mkC (k0+(q:Int)+(u:Int)+(z:Int)+(D:Int)+(K:Int)) (aG x.place),mkC (k0+(q:Int)+(u:Int)+(z:Int)+(D:Int)+(K:Int)+(q6:Int)) (bE x.routes)] [.int .i64 x.net.inputs,.slice SA sn sc,.slice LA ln lc,.slice OA on oc,.slice BA bn bc,.slice CA cn cc,.slice PA pn pc,.slice RA rn rc]))):=Hd o4
 have aW:=Hd (oQ (y:=Pc.cels [.int B,mkC (k0) (bD x.net.seqs),mkC (k0+(q:Int)) (bK x.net.luts),mkC (k0+(q:Int)+(u:Int)) (aG x.net.outs),mkC (k0+(q:Int)+(u:Int)+(z:Int)) (aa x.blocks),mkC (k0+(q:Int)+(u:Int)+(z:Int)+(D:Int)) (ag x.conns),mkC (k0+(q:Int)+(u:Int)+(z:Int)+(D:Int)+(K:Int)) (aG x.place),mkC (k0+(q:Int)+(u:Int)+(z:Int)+(D:Int)+(K:Int)+(q6:Int)) (bE x.routes)] [.int .i64 x.net.inputs,.slice SA sn sc,.slice LA ln lc,.slice OA on oc,.slice BA bn bc,.slice CA cn cc,.slice PA pn pc,.slice RA rn rc]) J.out)
 clear o4 H x7
 go_wp2_with fail
 go_ret
 exact ⟨rfl,aw.out.tail⟩
theorem vD (H ss:List (List Int)) (z B:Option Addr) (G q u D:Nat) (J:List Cel) (K:List Value) (W:World) (Q:List Pc) (i:Nat) (k0:Int) (w:World) (h:aJ W w Q) (hi:Q[i]?=some (.cels (bg H :: bg ss :: J) (.slice z G q :: .slice B u D :: K))) (ar:0<=k0) (ao:k0+((aY (bg H)+aY (bg ss):Nat):Int)<=1099511627776) :
  Calls Tryz.prog 17 #[.agg #[.slice z G q,.slice B u D],.int .i64 k0] w fun e w'=>e = .returned (.int .i64 (k0+(aY (bg H):Int)+(aY (bg ss):Int)))/\aJ W w' (Q.set i (.cels (mkC (k0) (bg H) :: mkC (k0+(aY (bg H):Int)) (bg ss) :: J) (.slice z G q :: .slice B u D :: K))):=by
 have HO:=Hd (h.consBlk #[.slice z G q,.slice B u D] 52)
 have Y:(Pc.blk w.heap.size #[.slice z G q,.slice B u D] 52 :: Q)[i+1]?=some (.cels (bg H :: bg ss :: J) (.slice z G q :: .slice B u D :: K)):=hi
 have HI:=Hd Y
 clear h hi Y
 generalize Z:aY (bg H)=q0 at *
 have ad:=Hd Z
 generalize U:aY (bg ss)=q1 at *
 have V:=Hd U
 clear Z U
 go_enter Tryz.func17,Tryz.ntmps17
 go_upto_region 1 with fail
 obtain ⟨gx,I⟩:∃g,w.heap.size=g:=⟨_,rfl⟩
 rw [I] at HO HI
 (try rw [I])
 clear I
 generalize w.alloc (.cells #[.slice z G q,.slice B u D] 52)=W0 at *
 obtain ⟨x0,lx⟩:=EQ ((HO.out.blk 0 rfl).1)
 go_wp2_with fail
 refine (mM (i:=i+1) (j:=0) HO.out HI.out rfl rfl (fun F a b=>tZ z G q _ F _ _ a b (by omega) (by rw [ad.out];omega))).mono ?_
 rw [ad.out]
 rintro _ w0 ⟨rfl,o0⟩
 have R:Hid (aJ W w0 ((Pc.blk gx #[.slice z G q,.slice B u D] 52 :: Q).set (i+1) (.cels (mkC (k0) (bg H) :: bg ss :: J) (.slice z G q :: .slice B u D :: K)))):=Hd o0
 have ah:=Hd (oQ (y:=Pc.cels (mkC (k0) (bg H) :: bg ss :: J) (.slice z G q :: .slice B u D :: K)) HI.out)
 clear o0 lx x0
 obtain ⟨-,x1,lx⟩:=fZ ((R.out.blk 0 rfl).1)
 go_wp2_with fail
 refine (mM (i:=i+1) (j:=1) R.out ah.out rfl rfl (fun F a b=>tZ B u D _ F _ _ a b (by omega) (by rw [V.out];omega))).mono ?_
 rw [V.out]
 rintro _ w1 ⟨rfl,o1⟩
 rw [List.set_set] at o1
 have ag:Hid (aJ W w1 ((Pc.blk gx #[.slice z G q,.slice B u D] 52 :: Q).set (i+1) (.cels (mkC (k0) (bg H) :: mkC (k0+(q0:Int)) (bg ss) :: J) (.slice z G q :: .slice B u D :: K)))):=Hd o1
 have av:=Hd (oQ (y:=Pc.cels (mkC (k0) (bg H) :: mkC (k0+(q0:Int)) (bg ss) :: J) (.slice z G q :: .slice B u D :: K)) HI.out)
 clear o1 lx x1
 go_wp2_with fail
 go_ret
 exact ⟨rfl,ag.out.tail⟩
theorem RdC.rowsRN {w:World} {B n c:Nat} {A:Option Addr} {g:List (List Int)} (h:RdC w B (bg g) (.slice A n c)):g.length=n:=by
 unfold bg at h
 have h1:=h.len
 simpa using h1
def mkR (k:Int):List (List Int)→List (List Int)
 | []=>[]
 | p :: g=>qd k p.length :: mkR (k+(p.length:Int)) g
theorem sG (p:List Int):aY (aG p)=p.length:=by rw [aG,aY,ug]
theorem Dv (k:Int) (p:List Int):mkC k (aG p)=aG (qd k p.length):=by rw [aG,mkC,BP];rfl
theorem Dw (k:Int) (g:List (List Int)):mkC k (bg g)=bg (mkR k g):=by
 unfold bg
 rw [mkC]
 congr 1
 induction g generalizing k with
 | nil=>rfl
 | cons p j ih =>
  rw [List.map_cons,mkL,mkR,List.map_cons,Dv,←ih,sG]
theorem vE (k:Int) (g:List (List Int)):(mkR k g).length=g.length:=by
 induction g generalizing k with
 | nil=>rfl
 | cons p j ih=>simp [mkR,ih]
theorem BV (k:Int):∀(g:List (List Int)) {i:Nat},i<g.length→(mkR k g)[i]?.getD []=qd (k+(bZ ((g.map aG).take i):Int)) (g[i]?.getD []).length
 | [],i,h=>by simp at h
 | p :: j,0,_=>by simp [mkR,bZ]
 | p :: j,i+1,h=>by
  rw [mkR,List.getElem?_cons_succ,BV _ j (by simpa using h),List.map_cons,List.take_succ_cons,bZ,sG,List.getElem?_cons_succ]
  congr 1
  omega
theorem tq (A:Option Addr) (n c:Nat) (xs:List (List Int)) (k0:Int) (w:World) (h:RdC w w.heap.size (mkC k0 (bg xs)) (.slice A n c)) (ai:0<=k0) (q:k0+(aY (bg xs):Int)<=1099511627776) (al:n<=1099511627776) :
  Calls Tryz.prog 66 #[.slice A n c,.int .i64 k0] w fun e w'=>e = .returned (.int .i64 (k0+(aY (bg xs):Int)))/\Below w.heap.size w w':=by
 rw [Dw] at h
 have hl:xs.length=n:=by rw [←vE k0 xs];exact h.rowsRN
 obtain ⟨Z,HR⟩:=hd2 hl h
 have B:Hid (aY (bg xs)=bZ (xs.map aG)):=by show _=_;rw [bg,aY]
 rw [B.out] at q
 have U:=Hd q
 clear h hl
 go_enter Tryz.func66,Tryz.ntmps66
 go_wp2_with fail
 go_loopw [1,5] (fun v i wr=>∃k:Nat,k<=n/\i = .int .i64 (k:Int)/\v = .int .i64 (k0+(bZ ((xs.map aG).take k):Int))/\Below w.heap.size w wr) (fun _ i _=>n - (intOf i).toNat)
 ·exact ⟨0,by omega,rfl,by simp [bZ],Below.refl _ _⟩
 obtain ⟨k,hk,rfl,rfl,V⟩:=hrel
 have G:=Hd V
 clear V
 by_cases Q:k<n
 ·have g:k<xs.length:=by rw [Z.out];exact Q
  obtain ⟨b,o,S,m,p,rfl,H,c0,z⟩:=(HR.out.below G.out).rowsR (k:=k) (by rw [vE];exact g)
  rw [BV _ _ g] at z
  have hs:=eF (cs:=xs.map aG) (j:=k) (c:=aG (xs[k]?.getD [])) (by rw [List.getElem?_map,List.getElem?_eq_getElem g];rfl)
  rw [sG] at hs
  have aj:=gU (xs.map aG) (k+1)
  have J:=z.ints.1
  rw [yU] at J
  rw [J] at hs z
  generalize hK:bZ ((xs.map aG).take k)=K at *
  generalize u:bZ ((xs.map aG).take (k+1))=K1 at *
  obtain ⟨HI,D⟩:=hd2 z.ints u
  obtain ⟨i0,i1⟩:=ib (by omega:k<n)
  have ae:=U.out
  clear z g J hK u
  go_wp2_with fail
  refine (yB S m p _ (k0+(K:Int)) _ HI.out rfl (by omega) (by omega) (by omega)).mono ?_
  rintro _ w2 ⟨rfl,Y⟩
  have R:=Hd (aA G.out Y)
  have W:¬(k0+(K:Int)+(m:Int)<0):=by omega
  clear Y c0 H
  go_wp2_with fail
  go_roundw
  ·exact ⟨k+1,by omega,by go_num,by rw [D.out];congr 1;omega,R.out⟩
  simp [intOf];omega
 have I:k=n:=by omega
 subst I
 have HV:Hid (bZ ((xs.map aG).take k)=aY (bg xs)):=by show _=_;rw [B.out,List.take_of_length_le (by rw [List.length_map,Z.out];exact Nat.le_refl _)]
 rw [HV.out]
 go_wp2_with fail
 go_ret
 exact ⟨rfl,G.out⟩
theorem wh (A B:Option Addr) (n c m d:Nat) (xs:List (List Int)) (w:World) (hA:RdC w w.heap.size (bg xs) (.slice A n c)) (H:RdC w w.heap.size (bg xs) (.slice B m d)) (V:∀x∈xs,x.length<=1099511627776) (hn:n<=1099511627776) :
  Calls Tryz.prog 60 #[.slice A n c,.slice B m d] w fun e w'=>e = .returned (.bool true)/\Below w.heap.size w w':=by
 have U:=hA.rowsRN
 have hy:=H.rowsRN
 obtain rfl:m=n:=by omega
 obtain ⟨HA,HB,HX,HZ⟩:=hd4 hA H U V
 clear U hy hA H V
 go_enter Tryz.func60,Tryz.ntmps60
 go_wp2_with fail
 go_loopw [5] (fun i wr=>∃k:Nat,k<=m/\i = .int .i64 k/\Below w.heap.size w wr) (fun i _=>m - (intOf i).toNat)
 ·exact ⟨0,Nat.zero_le _,rfl,Below.refl _ _⟩
 obtain ⟨k,hk,rfl,D⟩:=hrel
 have j:=Hd D
 clear D
 by_cases Q:k<m
 ·have I:=dT (by omega:k<m)
  have g:k<xs.length:=by rw [HX.out];exact Q
  obtain ⟨b,o,S0,l0,p0,rfl,hb,c0,Y⟩:=(HA.out.below j.out).rowsR (k:=k) g
  obtain ⟨b',o',S1,l1,p1,rfl,af,d0,Z⟩:=(HB.out.below j.out).rowsR (k:=k) g
  have q:=HZ.out _ (List.getElem_mem g)
  rw [show xs[k]=xs[k]?.getD [] by rw [List.getElem?_eq_getElem g];rfl] at q
  generalize xs[k]?.getD []=x at *
  obtain ⟨J,W,J1⟩:=hd3 q Y.ints Z.ints
  clear Y Z q g
  obtain ⟨i0,i1⟩:=ib (by omega:k<m)
  go_wp2_with fail
  have z:=Hd (fun (v:Sub wr)=>uG S0 S1 l0 l1 p0 p1 x v.v (W.out.below v.h) (J1.out.below v.h) (by have h1:=W.out.1;have h2:=J.out;omega))
  have u:=aX wr
  have G:=aP wr
  refine wpB wr ?_
  repeat (go_big_quiet_step ((first
   | (go_at_call 53;with_reducible exact aN (z.out _)))))
  refine wpQuiet_nil ?_
  rintro _ ⟨⟨w5,R⟩,rfl⟩
  clear u G z
  have HD:=Hd (aA j.out R)
  clear R
  go_wp2_with fail
  go_roundw
  ·exact ⟨k+1,by omega,by go_num,HD.out⟩
  simp [intOf];omega
 have K:k=m:=by omega
 subst K
 have I:decide ((k:Int)<(k:Int))=false:=by simp
 go_wp2_with fail
 go_ret
 exact ⟨rfl,j.out⟩
theorem sH (q ss:List (List Int)) (G H:Option Addr) (j z g J:Nat) (k0:Int) (w:World) (h1:RdC w w.heap.size (mkC k0 (bg q)) (.slice G j z)) (h2:RdC w w.heap.size (mkC (k0+(aY (bg q):Int)) (bg ss)) (.slice H g J)) (R:0<=k0) (ag:k0+(aY (bg q):Int)+(aY (bg ss):Int)<=1099511627776) (hL:j<=1099511627776) (hS:g<=1099511627776) :
  Calls Tryz.prog 18 #[.agg #[.slice G j z,.slice H g J],.int .i64 k0] w fun e w'=>e = .returned (.int .i64 (k0+(aY (bg q):Int)+(aY (bg ss):Int)))/\Below w.heap.size w w':=by
 have W:=Hd (aD (Below.refl w.heap.size w) (.cells #[.slice G j z,.slice H g J] 52))
 have Q:=Hd (aI w (.cells #[.slice G j z,.slice H g J] 52))
 obtain ⟨HA,HB⟩:=hd2 h1 h2
 generalize u:aY (bg q)=Y at *
 generalize B:aY (bg ss)=q2 at *
 obtain ⟨D,I⟩:=hd2 u B
 clear h1 h2 u B
 go_enter Tryz.func18,Tryz.ntmps18
 go_wp2_with fail
 refine (tq G j z q k0 _ (HA.out.below W.out) R (by rw [D.out];omega) hL).mono ?_
 rw [D.out]
 rintro _ w1 ⟨rfl,K⟩
 have V:=Hd (aA W.out K)
 have U:=aC K Q.out
 obtain ⟨-,x1,lx⟩:=fZ U
 have ad:¬(k0+(Y:Int)<0):=by omega
 clear U K
 go_wp2_with fail
 refine (tq H g J ss _ _ (HB.out.below V.out) (by omega) (by rw [I.out];omega) hS).mono ?_
 rw [I.out]
 rintro _ w2 ⟨rfl,Z⟩
 have B2:=Hd (aA V.out Z)
 have ae:¬(k0+(Y:Int)+(q2:Int)<0):=by omega
 clear Z x1 lx
 go_wp2_with fail
 go_ret
 exact ⟨rfl,B2.out⟩
theorem rH (U ss:List (List Int)) (z G K D:Option Addr) (j u g H J q I B:Nat) (w:World) (h1:RdC w w.heap.size (bg U) (.slice z j u)) (h2:RdC w w.heap.size (bg ss) (.slice G g H)) (k1:RdC w w.heap.size (bg U) (.slice K J q)) (k2:RdC w w.heap.size (bg ss) (.slice D I B))
  (z1:∀x∈U,x.length<=1099511627776) (z2:∀x∈ss,x.length<=1099511627776) (hL:j<=1099511627776) (hS:g<=1099511627776) :
  Calls Tryz.prog 15 #[.agg #[.slice z j u,.slice G g H],.agg #[.slice K J q,.slice D I B]] w fun e w'=>e = .returned (.bool true)/\Below w.heap.size w w':=by
 have H0:=Hd (aD (aD (Below.refl w.heap.size w) (.cells #[.slice z j u,.slice G g H] 52)) (.cells #[.slice K J q,.slice D I B] 52))
 have Q:=bS (.cells #[.slice K J q,.slice D I B] 52) (aI w (.cells #[.slice z j u,.slice G g H] 52))
 have hy:=aI (w.alloc (.cells #[.slice z j u,.slice G g H] 52)) (.cells #[.slice K J q,.slice D I B] 52)
 simp only [World.size_alloc] at hy
 obtain ⟨ag,Y,V,W,ah,aj,ae,af⟩:=hd8 Q hy h1 h2 k1 k2 z1 z2
 clear h1 h2 k1 k2 Q hy z1 z2
 go_enter Tryz.func15,Tryz.ntmps15
 go_wp2_with fail
 refine (wh z K j u J q U _ (V.out.below H0.out) (ah.out.below H0.out) ae.out hL).mono ?_
 rintro _ w1 ⟨rfl,R⟩
 have Z:=Hd (aA H0.out R)
 have Q:=aC R ag.out
 obtain ⟨-,x1,lx⟩:=fZ Q
 obtain ⟨-,y1,ly⟩:=fZ (aC R Y.out)
 clear Q R
 go_wp2_with fail
 refine (wh G D g H I B ss _ (W.out.below Z.out) (aj.out.below Z.out) af.out hS).mono ?_
 rintro _ w2 ⟨rfl,b2⟩
 have B2:=Hd (aA Z.out b2)
 clear x1 lx y1 ly b2
 go_wp2_with fail
 go_ret
 exact ⟨rfl,B2.out⟩
theorem aJ.lift {W v w:World} {g:List Pc} (j:Below W.heap.size W w) (D:aJ v w g) (B:W.heap.size<=v.heap.size):aJ W w g:=by
 obtain ⟨_,F,u,q,z⟩:=D
 exact ⟨j,F,u,q,fun k hk=>Nat.le_trans B (z k hk)⟩
theorem aJ.boxE {W v w:World} {q:List Pc} {g:Nat} {u:Array Value} {t:TypeId} (hg:v.heap[g]?=some (.cells u t (0,0))) (K:W.heap.size<=g) (B:Below W.heap.size W w) (G:aJ v w q):aJ W w (.blk g u t :: q):=by
 obtain ⟨H,F,J,I,z⟩:=G
 have hl:=aB hg
 have j:=aC H hg
 refine ⟨B,[g]++F,⟨[g],F,rfl,⟨rfl,aB j,j,fun Q R e h=>e.trans h⟩,J⟩,?_,fun k hk=>?_⟩
 ·rw [List.nodup_append]
  exact ⟨by simp,I,fun a D b j e=>by rw [List.mem_singleton] at D;have:=z b j;omega⟩
 rcases List.mem_append.1 hk with hk|hk
 ·rw [List.mem_singleton] at hk;omega
 have:=z k hk;omega
theorem aJ.cels2 {W w:World} {c1 c2:Cel} {j g:Value} {u:List Pc} (h:aJ W w (.cel c1 j :: .cel c2 g :: u)):aJ W w (.cels [c1,c2] [j,g] :: u):=by
 obtain ⟨h1,F,⟨q,F',rfl,B,F2,z,rfl,G,D⟩,h3,h4⟩:=h
 refine ⟨h1,q++(F2++z),⟨q++F2,z,(List.append_assoc _ _ _).symm,?_,D⟩,h3,h4⟩
 show ek w _ _ _
 rw [dR]
 exact ⟨j,[g],q,F2,rfl,rfl,B,by rw [dR];exact ⟨g,[],F2,[],rfl,by simp,G,fF.2 ⟨rfl,rfl⟩⟩⟩
theorem aJ.rdc {W w:World} {g:List Pc} (h:aJ W w g) (i j:Nat) {cs:List Cel} {vs:List Value} {c:Cel} {v:Value} (hi:g[i]?=some (.cels cs vs)) (hc:cs[j]?=some c) (q:vs[j]?=some v):RdC w w.heap.size c v:=by
 obtain ⟨F,h1,h2,h3,_⟩:=h.part i hi
 obtain ⟨u,z,D,B,_⟩:=di.part (lo:=W.heap.size) (hi:=w.heap.size) ⟨F,h1,h2,h3⟩ hc q
 exact gF.rd ⟨u,z,D,B⟩
theorem lh {α:Type} {cells:α→List Cel} (h:∀x,bZ (cells x)<=4 * (1+af (cells x))):∀xs:List α,bZ (xs.flatMap cells)<=4 * (xs.length+af (xs.flatMap cells))
 | []=>by simp [bZ]
 | x :: xs=>by
  have h1:=h x
  have h2:=lh h xs
  rw [List.flatMap_cons,qN,iA,List.length_cons]
  omega
theorem mi (xs:List Int):aY (aG xs)<=4 * szC (aG xs):=by rw [nO,aG,aY,ug];omega
theorem FJ (es:List LeT):aY (cO es)<=4 * szC (cO es):=by
 unfold cO
 rw [bv (cells:=LeT.cells) (s:=2) (fun _=>rfl) (by omega),aY]
 exact lh (fun x=>by simp [LeT.cells,bZ,aY];omega) es
theorem Eg (es:List ah):aY (bL es)<=4 * szC (bL es):=by
 unfold bL
 rw [bv (cells:=ah.cells) (s:=2) (fun _=>rfl) (by omega),aY]
 exact lh (fun x=>by simp [ah.cells,bZ,aY];omega) es
theorem FK (es:List Sq):aY (bD es)<=4 * szC (bD es):=by
 unfold bD
 rw [bv (cells:=Sq.cells) (s:=3) (fun _=>rfl) (by omega),aY]
 exact lh (fun x=>by have:=mi x.ins;simp only [Sq.cells,bZ,aY,au,bM,fJ] at this ⊢;omega) es
theorem FL (es:List Lt):aY (bK es)<=4 * szC (bK es):=by
 unfold bK
 rw [bv (cells:=Lt.cells) (s:=2) (fun _=>rfl) (by omega),aY]
 exact lh (fun x=>by have:=mi x.ins;simp only [Lt.cells,bZ,aY,au,bM,fJ] at this ⊢;omega) es
theorem Eh (es:List Blk):aY (aa es)<=4 * szC (aa es):=by
 unfold aa
 rw [bv (cells:=Blk.cells) (s:=3) (fun _=>rfl) (by omega),aY]
 exact lh (fun x=>by have:=FJ x.les;simp only [Blk.cells,bZ,aY,au,bM,fJ] at this ⊢;omega) es
theorem FM (es:List Cn):aY (ag es)<=4 * szC (ag es):=by
 unfold ag
 rw [bv (cells:=Cn.cells) (s:=4) (fun _=>rfl) (by omega),aY]
 exact lh (fun x=>by have:=Eg x.sinks;simp only [Cn.cells,bZ,aY,au,bM,fJ] at this ⊢;omega) es
theorem Ei (es:List Rou):aY (bE es)<=4 * szC (bE es):=by
 unfold bE
 rw [bv (cells:=Rou.cells) (s:=2) (fun _=>rfl) (by omega),aY]
 exact lh (fun x=>by have:=mi x.nodes;have:=mi x.from_;simp only [Rou.cells,bZ,au,bM] at *;omega) es
theorem Ej (x:Lay):aY (bD x.net.seqs)+aY (bK x.net.luts)+aY (aG x.net.outs)+aY (aa x.blocks)+aY (ag x.conns)+aY (aG x.place)+aY (bE x.routes)<=4 * af x.cells:=by
 have h0:af x.cells=szC (bD x.net.seqs)+(szC (bK x.net.luts)+(szC (aG x.net.outs)+(szC (aa x.blocks)+(szC (ag x.conns)+(szC (aG x.place)+(szC (bE x.routes)+0)))))):=by
  unfold Lay.cells ai.cells
  simp only [List.cons_append,List.nil_append,au,bM,fJ]
  omega
 have:=FK x.net.seqs;have:=FL x.net.luts;have:=mi x.net.outs;have:=Eh x.blocks;have:=FM x.conns;have:=mi x.place;have:=Ei x.routes
 omega
abbrev Em (x:Lay):List Cel:=[.int x.net.inputs,bD x.net.seqs,bK x.net.luts,aG x.net.outs,aa x.blocks,ag x.conns,aG x.place,bE x.routes]
abbrev BX (x:Lay) (q u z g D j B:Option Addr) (sn ln on bn cn pn rn:Nat):List Value:=[.int .i64 x.net.inputs,.slice q sn sn,.slice u ln ln,.slice z on on,.slice g bn bn,.slice D cn cn,.slice j pn pn,.slice B rn rn]
theorem om {W w:World} {q:List Pc} {x:Lay} {z j D g B u G:Option Addr} {sn ln on bn cn pn rn:Nat} (h:aJ W w q) (i:Nat) (hi:q[i]?=some (.cels (Em x) (BX x z j D g B u G sn ln on bn cn pn rn))):j5 w x z j D g B u G sn sn ln ln on on bn bn cn cn pn pn rn rn :=
 ⟨h.rdc i 1 hi rfl rfl,h.rdc i 2 hi rfl rfl,h.rdc i 3 hi rfl rfl,h.rdc i 4 hi rfl rfl,h.rdc i 5 hi rfl rfl,h.rdc i 6 hi rfl rfl,h.rdc i 7 hi rfl rfl⟩
theorem xW (x:Lay) (SA LA OA BA CA PA RA:Option Addr) (sn sc ln lc on oc bn bc cn cc pn pc rn rc:Nat) (w:World) (h:j5 w x SA LA OA BA CA PA RA sn sc ln lc on oc bn bc cn cc pn pc rn rc) (G:af x.cells<=1048576) :
  Calls Tryz.prog 10 #[sZ x SA LA OA BA CA PA RA sn sc ln lc on oc bn bc cn cc pn pc rn rc] w fun e w'=>∃u j B g z q D,e = .returned (sZ x u j B g z q D sn sn ln ln on on bn bn cn cn pn pn rn rn)/\aJ w w' [.cels (Em x) (BX x u j B g z q D sn ln on bn cn pn rn)] :=
 (yF SA LA OA BA CA PA RA sn sc ln lc on oc bn bc cn cc pn pc rn rc x w h.sq h.lt h.ou h.bl h.cn h.pl h.ro G).mono fun _ _ ⟨u,j,B,g,z,q,D,h1,h2,h3⟩=>⟨u,j,B,g,z,q,D,h1,(aJ.refl w).pushLs h3 h2⟩
theorem oU (w:World) (p:Addr) (v:Value):w.drew.setCell p v=(w.setCell p v).drew:=rfl
theorem l8 (w:World) (o:Obj):w.drew.alloc o=(w.alloc o).drew:=rfl
def fu (W:World) (D:lw) (r:Bool) (p u:Value) (w':World):Prop:=∃g z B G q H j,p = .pointer (some ⟨g,0,none⟩)/\u = .bool r/\aJ W w' [.blk g #[.slice z B G,.slice q H j] 52,.cels [bg D.luts,bg D.seqs] [.slice z B G,.slice q H j]]
theorem fu.drew {W w:World} {D:lw} {r:Bool} {p u:Value} (h:fu W D r p u w):fu W D r p u w.drew:=by
 obtain ⟨g,z,B,G,q,H,j,h1,h2,h3⟩:=h
 exact ⟨g,z,B,G,q,H,j,h1,h2,h3.drew⟩
theorem xX {W v w:World} {D:lw} {r:Bool} {q j:Option Addr} {u z B g:Nat} (G:Below W.heap.size W w) (I:aJ v w [.cel (bg D.luts) (.slice q u z),.cel (bg D.seqs) (.slice j B g)]) (H:W.heap.size<=v.heap.size) :
  fu W D r (.pointer (some ⟨w.heap.size,0,none⟩)) (.bool r) (w.alloc (.cells #[.slice q u z,.slice j B g] 52)) :=
 ⟨_,_,_,_,_,_,_,rfl,rfl,(aJ.lift G I H).cels2.consBlk _ _⟩
theorem xY {W v w:World} {D:lw} {r:Bool} {g:Nat} {u q:Option Addr} {z B G j:Nat} (hg:v.heap[g]?=some (.cells #[.slice none 0 0,.slice none 0 0] 52 (0,0))) (H:Below W.heap.size W w) (J:aJ v w [.cel (bg D.luts) (.slice u z B),.cel (bg D.seqs) (.slice q G j)]) (I:W.heap.size<=g) :
  fu W D r (.pointer (some ⟨g,0,none⟩)) (.bool r) ((w.setCell ⟨g,0,none⟩ (.slice u z B)).setCell ⟨g,1,none⟩ (.slice q G j)) :=
 ⟨_,_,_,_,_,_,_,rfl,rfl,((aJ.boxE hg I H J.cels2).put 0 rfl 0 (.slice u z B)).put 0 rfl 1 (.slice q G j)⟩
theorem tF {b:Nat}:∀{L:List (List Int)},(∀x∈L,x.length<=b)→bZ (L.map aG)<=L.length * b
 | [],_=>by simp [bZ]
 | p :: j,h=>by
  have h1:=tF fun x g=>h x (List.mem_cons_of_mem _ g)
  have h2:=h p (by simp)
  rw [List.map_cons,bZ,sG,List.length_cons,Nat.succ_mul]
  omega
structure y9 (D:lw):Prop where
 ln:D.luts.length<=400
 sn:D.seqs.length<=400
 luts:∀x∈D.luts,x.length<=1100
 seqs:∀x∈D.seqs,x.length<=1100
theorem y9.cl {D:lw} (h:y9 D):aY (bg D.luts)<=440000:=by
 rw [bg,aY]
 have h1:=tF h.luts
 have h2:=Nat.mul_le_mul_right 1100 h.ln
 omega
theorem y9.cs {D:lw} (h:y9 D):aY (bg D.seqs)<=440000:=by
 rw [bg,aY]
 have h1:=tF h.seqs
 have h2:=Nat.mul_le_mul_right 1100 h.sn
 omega
theorem En (d:Dev) (x:Lay):y9 (delD d x):=by
 by_cases hf:iQ d x
 ·have q:delD d x=delays d x:=if_pos hf
  rw [q]
  have h1:=lW (d:=d) hf.pack x.blocks.length (Nat.le_refl _)
  change qM x (delays d x) _ at h1
  have h2:=hf.pack.len
  refine ⟨by rw [h1.ln];exact hf.pack.net.nlut,by rw [h1.sn];have:=hf.pack.net.nseq;omega,fun y g=>?_,fun y g=>?_⟩
  ·obtain ⟨j,hj,rfl⟩:=List.getElem_of_mem g
   have h3:=h1.luts j
   rw [List.getElem?_eq_getElem hj] at h3
   have h4:(delays d x).luts[j].length<=16 * x.blocks.length:=h3
   omega
  obtain ⟨j,hj,rfl⟩:=List.getElem_of_mem g
  have h3:=h1.seqs j
  rw [List.getElem?_eq_getElem hj] at h3
  have h4:(delays d x).seqs[j].length<=16 * x.blocks.length:=h3
  omega
 have q:delD d x=⟨[],[]⟩:=if_neg hf
 rw [q]
 exact ⟨by simp,by simp,by simp,by simp⟩
end Go.Proofs.YtofihjoanjkdmaaGreat
