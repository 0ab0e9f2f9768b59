/- Marking nested data, cell by cell. -/
import Derived.Deep.RegionLaw
import Derived.Test.YtofihjoanjkdmaaGreatAnnF
import Derived.Test.YtofihjoanjkdmaaGreatIniF
import Derived.Test.YtofihjoanjkdmaaGreatLayTo
import Derived.Test.YtofihjoanjkdmaaGreatPackF
import Derived.Test.YtofihjoanjkdmaaGreatRtaS
namespace Go.Proofs.YtofihjoanjkdmaaGreat
set_option maxHeartbeats 8000000
set_option maxRecDepth 100000
open Go.RowKit
theorem jB{w:World}{e s n c:Nat}{A:Oh}{cs:List Cel}{F:List Nat}(h:dJ w (.row e s cs) (.slice A n c) F):cs.length=n*s:=by
 rw[dV]at h;obtain⟨q,u,j,vs,F',g,ho,_,hl⟩:=h;injection g with _ hn _
 subst hn;rw[←hl.len];exact ho.1
theorem bO{α:Type}{cells:α→List Cel}{s:Nat}(hf:∀x,(cells x).length=s){z:α}:∀{xs:List α} {i r:Nat},i<xs.length→r<s→(xs.flatMap cells)[i*s+r]?=(cells (xs[i]?.getD z))[r]?
 | [],i,r,hi,_=>by simp at hi
 | x::xs,0,r,_,hr=>by rw[List.flatMap_cons,Nat.zero_mul,Nat.zero_add,List.getElem?_append_left (by rw[hf];exact hr)];rfl
 | x::xs,i+1,r,hi,hr=>by
  rw[List.flatMap_cons,List.getElem?_append_right (by rw[hf,Nat.succ_mul];omega),hf,show(i+1)*s+r-s=i*s+r by rw[Nat.succ_mul];omega,bO hf (by simpa using hi) hr];rfl
theorem mU{w:World}{g p q:Nat}{v:Value}(h:p≠q):(w.setCell ⟨g,p,none⟩ v).cell? ⟨g,q,none⟩=w.cell? ⟨g,q,none⟩:=World.cell?_setCell_other _ _ _ _ (fun e=>h (by injection e))
structure Mkd(F:List Nat)(e s n c g:Nat)(k0:Int)(cs:List Cel)(w0 w:World)(j:Nat):Prop where
 own:dJ w (.row e s (mkP k0 cs j)) (.slice (some ⟨g,0,none⟩) n c) F
 only:iZ F w0 w
section
variable {F:List Nat} {e s n c g j:Nat} {k0:Int} {cs:List Cel} {w0 w:World}
theorem Me{q:Nat}(hq:j<=q)(hl:j<=cs.length):(mkP k0 cs j)[q]?=cs[q]?:=by
 have h1:(mkL k0 (cs.take j)).length=j:=by rw[kU];simp;omega
 unfold mkP;rw[List.getElem?_append_right (by omega),h1,List.getElem?_drop]
 congr 1
 omega
theorem Mkd.get(h:Mkd F e s n c g k0 cs w0 w j)(hF:F.Nodup){q:Nat}(hq:j<=q){x:Int}(hc:cs[q]?=some (.int x)):w.cell? ⟨g,q,none⟩=some (.int .i64 x)/\w.frozen? ⟨g,q,none⟩=false/\g<w.heap.size:=by
 have hl:=(List.getElem?_eq_some_iff.1 hc).1;obtain⟨z,hA,u,h1,h2,-⟩:=h.own.num hF ((Me hq (by omega)).trans hc);injection hA with hA
 injection hA with hA
 subst hA;exact⟨h1,h2,h.own.lt _ u⟩
theorem Mkd.put(h:Mkd F e s n c g k0 cs w0 w j)(hF:F.Nodup){x:Int}(hc:cs[j]?=some (.int x)){y:Int}(u:y=k0+(bE (cs.take j):Int)):Mkd F e s n c g k0 cs w0 (w.setCell ⟨g,j,none⟩ (.int .i64 y)) (j+1):=by
 obtain⟨z,hA,q,-,-,h3⟩:=h.own.num hF (JN hc);injection hA with hA
 injection hA with hA
 subst hA;refine⟨?_,h.only.trans (tT q _)⟩;rw[←JO hc,u];exact h3 _
theorem Mkd.row(h:Mkd F e s n c g k0 cs w0 w j)(hF:F.Nodup){e' u:Nat}{q:List Cel}(hc:cs[j]?=some (.row e' u q)):∃S m p G,w.cell? ⟨g,j,none⟩=some (.slice S m p)/\g<w.heap.size/\dJ w (.row e' u q) (.slice S m p) G/\G.Nodup /\
  ∀(k:Int) (w':World),k=k0+(bE (cs.take j):Int)→dJ w' (mkC k (.row e' u q)) (.slice S m p) G→iZ G w w'→Mkd F e s n c g k0 cs w0 w' (j+1):=by
 obtain⟨H,v,G,hA,z,h1,h2,h3,-,B,D⟩:=h.own.child hF (JN hc);injection hA with hA
 injection hA with hA
 subst hA;obtain⟨S,m,p,vs,F',rfl,-⟩:=dV.1 h2;refine⟨S,m,p,G,h1,h.own.lt _ z,h2,h3,fun k w' hk ho hg=>⟨?_,h.only.trans (hg.more B)⟩⟩;rw[←JO hc,←hk];exact D w' _ ho hg
theorem mV{A:Oh}(h:dJ w (.row e s cs) (.slice A n c) F)(hj:0<cs.length):∃g,A=some ⟨g,0,none⟩/\Mkd F e s n c g k0 cs w w 0:=by
 obtain⟨g,c0,v,j,q,F2,rfl,-⟩:=h.cell hj;exact⟨g,rfl,by rw[Kv];exact h,iZ.refl _ _⟩
theorem Mkd.done(h:Mkd F e s n c g k0 cs w0 w j)(hj:cs.length<=j):dJ w (mkC k0 (.row e s cs)) (.slice (some ⟨g,0,none⟩) n c) F/\iZ F w0 w:=by
 refine⟨?_,h.only⟩;rw[mkC,←Kw k0 cs hj];exact h.own
end
theorem j3{w:World}{e s n c:Nat}{A:Oh}{cs:List Cel}{F:List Nat}(h:dJ w (.row e s cs) (.slice A n c) F):n<=9223372036854775807:=by
 rw[dV]at h;obtain⟨z,B,u,vs,F',q,ho,_,_⟩:=h;injection q with _ hn _
 subst hn
 rcases ho.2 with⟨h1,h2⟩|⟨g,cap,cur,h1,_,_,h3,j,_⟩
 ·injection h1 with _ h1 _;omega
 injection h1 with _ h1 _;unfold maxLen at j;omega
theorem mW(A:Oh)(n c:Nat)(xs:List Int)(F:List Nat)(k0:Int)(w:World)(h:dJ w (aI xs) (.slice A n c) F)(hF:F.Nodup)(j:0<=k0)(g:k0+(aO (aI xs):Int)<=1099511627776) :
  Calls Tryz.prog 63 #[.slice A n c,.int .i64 k0] w fun e w'=>e=.returned (.int .i64 (k0+(aO (aI xs):Int)))/\dJ w' (mkC k0 (aI xs)) (.slice A n c) F/\iZ F w w':=by
 obtain⟨ho,rfl⟩:=gy.1 h;have hl:xs.length=n:=ho.len;have hc:aO (aI xs)=n:=by rw[aI,aO,ol,hl]
 rw[hc]at g ⊢;refine(D6 0 A n c xs k0 w ho j (by omega) (by omega)).mono ?_;rintro e w' ⟨rfl,h1,h2⟩;refine⟨rfl,?_,JA h2⟩;rw[aI,mkC,JP,hl];exact gy.2 ⟨h1,rfl⟩
theorem G6(A:Oh)(n c:Nat)(xs:List LeT)(F:List Nat)(k0:Int)(w:World)(h:dJ w (ay xs) (.slice A n c) F)(hF:F.Nodup)(ar:0<=k0)(D:k0+(aO (ay xs):Int)<=1099511627776) :
  Calls Tryz.prog 143 #[.slice A n c,.int .i64 k0] w fun e w'=>e=.returned (.int .i64 (k0+(aO (ay xs):Int)))/\dJ w' (mkC k0 (ay xs)) (.slice A n c) F/\iZ F w w':=by
 have hl:xs.length=n:=by have h1:=jB h;unfold ay at h1;rw[bW (s:=2) (fun _=>rfl)]at h1;omega
 have hn:=j3 h;obtain⟨W,V,j⟩:=hd3 hl h hF;have G:Hv (aO (ay xs)=bE (xs.flatMap LeT.cells)):=Hd<|by show _=_;rw[ay,aO]
 rw[G.1]at D;have H:=Hd D;clear h hF hl;by_cases ag:n=0
 ·subst ag;have hx:xs=[]:=List.eq_nil_of_length_eq_zero W.1;subst hx;go_enter Tryz.func143,Tryz.ntmps143;go_wp2
  go_loopw[1,5] (fun v i wr=>v=.int .i64 k0/\i=.int .i64 0/\w=wr) (fun _ _ _=>0)
  ·exact⟨rfl,rfl,rfl⟩
  obtain⟨rfl,rfl,rfl⟩:=hrel;go_wp2;go_ret;exact⟨aQ (by rw[G.1];simp[bE]),V.1,iZ.refl _ _⟩
 obtain⟨g,rfl,Q⟩:=mV (k0:=k0) V.1 (by rw[jB V.1];omega);have ad:=Hd Q;clear Q V;go_enter Tryz.func143,Tryz.ntmps143;go_wp2
 go_loopw[1,5] (fun v i wr=>∃k:Nat,k<=n/\i=.int .i64 (k:Int)/\v=.int .i64 (k0+(bE ((xs.flatMap LeT.cells).take (k*2)):Int))/\Mkd F 94 2 n c g k0 (xs.flatMap LeT.cells) w wr (k*2)) (fun _ i _=>n-(intOf i).toNat)
 ·exact⟨0,by omega,rfl,by simp[bE],by rw[Nat.zero_mul];exact ad.1⟩
 obtain⟨k,hk,rfl,rfl,hm⟩:=hrel;have Y:=Hd hm;clear hm;by_cases al:k<n
 ·have u:k<xs.length:=by rw[W.1];exact al
  have q:Hv ((xs.flatMap LeT.cells)[k*2]?=some (.int ((xs[k]?.getD LeT.zero).lut))):=Hd<|bO (cells:=LeT.cells) (s:=2) (z:=LeT.zero) (r:=0) (fun _=>rfl) u (by omega)
  have ak:=bS q.1;have B:Hv ((xs.flatMap LeT.cells)[k*2+1]?=some (.int ((xs[k]?.getD LeT.zero).ff))):=Hd<|bO (cells:=LeT.cells) (s:=2) (z:=LeT.zero) (r:=1) (fun _=>rfl) u (by omega)
  have Z:=bS B.1;have ap:=eP (xs.flatMap LeT.cells) (k*2+2)
  try simp only[aO]at ak
  try simp only[aO]at Z
  have R:(k+1)*2=k*2+2:=by omega
  generalize K:bE ((xs.flatMap LeT.cells).take (k*2))=K0 at *;generalize J:bE ((xs.flatMap LeT.cells).take (k*2+1))=K1 at *;generalize I:bE ((xs.flatMap LeT.cells).take (k*2+2))=K2 at *;have D:=H.1;obtain⟨ah,H,ai⟩:=hd3 K J I;obtain⟨i0,i1⟩:=ib (by omega:k<n);have U:=Hd R;clear u R K J I;obtain⟨c0,f0,av⟩:=Y.1.get j.1 (by omega) q.1;have aj:=Hd (Y.1.put j.1 q.1 (y:=k0+(K0:Int)) (by rw[ah.1]));obtain⟨c1,f1,au⟩:=Y.1.get j.1 (by omega) B.1;have af:=Hd (aj.1.put j.1 B.1 (y:=k0+(K0:Int)+1) (by rw[H.1];omega));go_wp2;go_roundw
  ·exact⟨k+1,by omega,by go_num,by rw[U.1,ai.1];congr 1;omega,by rw[U.1];exact af.1⟩
  simp[intOf];omega
 have ae:k=n:=by omega
 subst ae;have hd:=Y.1.done (by rw[bW (s:=2) (fun _=>rfl),W.1];exact Nat.le_refl _);have HD:=Hd hd;have HV:Hv (bE ((xs.flatMap LeT.cells).take (k*2))=aO (ay xs)):=Hd<|by show _=_;rw[G.1,List.take_of_length_le (by rw[bW (s:=2) (fun _=>rfl),W.1];exact Nat.le_refl _)]
 rw[HV.1];clear hd;go_wp2;go_ret;exact⟨rfl,HD.1.1,HD.1.2⟩
theorem AR(A:Oh)(n c:Nat)(xs:List Blk)(F:List Nat)(k0:Int)(w:World)(h:dJ w (aa xs) (.slice A n c) F)(hF:F.Nodup)(aR:0<=k0)(B:k0+(aO (aa xs):Int)<=1099511627776) :
  Calls Tryz.prog 61 #[.slice A n c,.int .i64 k0] w fun e w'=>e=.returned (.int .i64 (k0+(aO (aa xs):Int)))/\dJ w' (mkC k0 (aa xs)) (.slice A n c) F/\iZ F w w':=by
 have hl:xs.length=n:=by have h1:=jB h;unfold aa at h1;rw[bW (s:=3) (fun _=>rfl)]at h1;omega
 have hn:=j3 h;obtain⟨HL,HO,j⟩:=hd3 hl h hF;have I:Hv (aO (aa xs)=bE (xs.flatMap Blk.cells)):=Hd<|by show _=_;rw[aa,aO]
 rw[I.1]at B;have D:=Hd B;clear h hF hl;by_cases aC:n=0
 ·subst aC;have hx:xs=[]:=List.eq_nil_of_length_eq_zero HL.1;subst hx;go_enter Tryz.func61,Tryz.ntmps61;go_wp2
  go_loopw[1,5] (fun v i wr=>v=.int .i64 k0/\i=.int .i64 0/\w=wr) (fun _ _ _=>0)
  ·exact⟨rfl,rfl,rfl⟩
  obtain⟨rfl,rfl,rfl⟩:=hrel;go_wp2;go_ret;exact⟨aQ (by rw[I.1];simp[bE]),HO.1,iZ.refl _ _⟩
 obtain⟨g,rfl,Q⟩:=mV (k0:=k0) HO.1 (by rw[jB HO.1];omega);have aq:=Hd Q;clear Q HO;go_enter Tryz.func61,Tryz.ntmps61;go_wp2
 go_loopw[1,5] (fun v i wr=>∃k:Nat,k<=n/\i=.int .i64 (k:Int)/\v=.int .i64 (k0+(bE ((xs.flatMap Blk.cells).take (k*3)):Int))/\Mkd F 89 3 n c g k0 (xs.flatMap Blk.cells) w wr (k*3)) (fun _ i _=>n-(intOf i).toNat)
 ·exact⟨0,by omega,rfl,by simp[bE],by rw[Nat.zero_mul];exact aq.1⟩
 obtain⟨k,hk,rfl,rfl,hm⟩:=hrel;have HM:=Hd hm;clear hm;by_cases au:k<n
 ·have q:k<xs.length:=by rw[HL.1];exact au
  have H:Hv ((xs.flatMap Blk.cells)[k*3]?=some (.int ((xs[k]?.getD Blk.zero).kind))):=Hd<|bO (cells:=Blk.cells) (s:=3) (z:=Blk.zero) (r:=0) (fun _=>rfl) q (by omega)
  have az:=bS H.1;have G:Hv ((xs.flatMap Blk.cells)[k*3+1]?=some (.int ((xs[k]?.getD Blk.zero).item))):=Hd<|bO (cells:=Blk.cells) (s:=3) (z:=Blk.zero) (r:=1) (fun _=>rfl) q (by omega)
  have aA:=bS G.1;have V:Hv ((xs.flatMap Blk.cells)[k*3+2]?=some (ay (xs[k]?.getD Blk.zero).les)):=Hd<|bO (cells:=Blk.cells) (s:=3) (z:=Blk.zero) (r:=2) (fun _=>rfl) q (by omega)
  have aS:=bS V.1;have aV:=eP (xs.flatMap Blk.cells) (k*3+3)
  try simp only[aO]at az
  try simp only[aO]at aA
  have R:(k+1)*3=k*3+3:=by omega
  generalize aj:bE ((xs.flatMap Blk.cells).take (k*3))=K0 at *;generalize U:bE ((xs.flatMap Blk.cells).take (k*3+1))=K1 at *;generalize Z:bE ((xs.flatMap Blk.cells).take (k*3+2))=K2 at *;generalize ag:bE ((xs.flatMap Blk.cells).take (k*3+3))=K3 at *;generalize hq2:aO (ay (xs[k]?.getD Blk.zero).les)=q2 at *;have B:=D.1;obtain⟨aw,D,aE,av,af⟩:=hd5 aj U Z ag hq2;obtain⟨i0,i1⟩:=ib (by omega:k<n);have W:=Hd R;clear q R aj U Z ag hq2;obtain⟨c0,f0,ax⟩:=HM.1.get j.1 (by omega) H.1;have ar:=Hd (HM.1.put j.1 H.1 (y:=k0+(K0:Int)) (by rw[aw.1]));obtain⟨c1,f1,aF⟩:=HM.1.get j.1 (by omega) G.1;have aB:=Hd (ar.1.put j.1 G.1 (y:=k0+(K0:Int)+1) (by rw[D.1];omega));obtain⟨S2,m2,p2,G2,K,ah,ae,Y,ak⟩:=aB.1.row j.1 V.1;rw[mU (by omega),mU (by omega)]at K;simp only[World.size_setCell]at ah;obtain⟨J,ai,u⟩:=hd3 ae ak Y;clear ae ak Y;have ad:=j3 J.1;go_wp2_with fail;refine(G6 S2 m2 p2 _ G2 _ _ J.1 u.1 (by omega) (by rw[af.1];omega)).mono ?_;rw[af.1];rintro _ w1 ⟨rfl,o1,g1⟩;have aD:=Hd (ai.1 _ w1 (by rw[aE.1];omega) o1 g1);clear o1 g1 J ai u ad c0 f0 ax c1 f1 aF K ah;go_wp2;go_roundw
  ·exact⟨k+1,by omega,by go_num,by rw[W.1,av.1];congr 1;omega,by rw[W.1];exact aD.1⟩
  simp[intOf];omega
 have ap:k=n:=by omega
 subst ap;have hd:=HM.1.done (by rw[bW (s:=3) (fun _=>rfl),HL.1];exact Nat.le_refl _);have HD:=Hd hd;have HV:Hv (bE ((xs.flatMap Blk.cells).take (k*3))=aO (aa xs)):=Hd<|by show _=_;rw[I.1,List.take_of_length_le (by rw[bW (s:=3) (fun _=>rfl),HL.1];exact Nat.le_refl _)]
 rw[HV.1];clear hd;go_wp2;go_ret;exact⟨rfl,HD.1.1,HD.1.2⟩
theorem EL(A:Oh)(n c:Nat)(xs:List aL)(F:List Nat)(k0:Int)(w:World)(h:dJ w (aZ xs) (.slice A n c) F)(hF:F.Nodup)(ar:0<=k0)(D:k0+(aO (aZ xs):Int)<=1099511627776) :
  Calls Tryz.prog 144 #[.slice A n c,.int .i64 k0] w fun e w'=>e=.returned (.int .i64 (k0+(aO (aZ xs):Int)))/\dJ w' (mkC k0 (aZ xs)) (.slice A n c) F/\iZ F w w':=by
 have hl:xs.length=n:=by have h1:=jB h;unfold aZ at h1;rw[bW (s:=2) (fun _=>rfl)]at h1;omega
 have hn:=j3 h;obtain⟨W,V,j⟩:=hd3 hl h hF;have G:Hv (aO (aZ xs)=bE (xs.flatMap aL.cells)):=Hd<|by show _=_;rw[aZ,aO]
 rw[G.1]at D;have H:=Hd D;clear h hF hl;by_cases ag:n=0
 ·subst ag;have hx:xs=[]:=List.eq_nil_of_length_eq_zero W.1;subst hx;go_enter Tryz.func144,Tryz.ntmps144;go_wp2
  go_loopw[1,5] (fun v i wr=>v=.int .i64 k0/\i=.int .i64 0/\w=wr) (fun _ _ _=>0)
  ·exact⟨rfl,rfl,rfl⟩
  obtain⟨rfl,rfl,rfl⟩:=hrel;go_wp2;go_ret;exact⟨aQ (by rw[G.1];simp[bE]),V.1,iZ.refl _ _⟩
 obtain⟨g,rfl,Q⟩:=mV (k0:=k0) V.1 (by rw[jB V.1];omega);have ad:=Hd Q;clear Q V;go_enter Tryz.func144,Tryz.ntmps144;go_wp2
 go_loopw[1,5] (fun v i wr=>∃k:Nat,k<=n/\i=.int .i64 (k:Int)/\v=.int .i64 (k0+(bE ((xs.flatMap aL.cells).take (k*2)):Int))/\Mkd F 100 2 n c g k0 (xs.flatMap aL.cells) w wr (k*2)) (fun _ i _=>n-(intOf i).toNat)
 ·exact⟨0,by omega,rfl,by simp[bE],by rw[Nat.zero_mul];exact ad.1⟩
 obtain⟨k,hk,rfl,rfl,hm⟩:=hrel;have Y:=Hd hm;clear hm;by_cases al:k<n
 ·have u:k<xs.length:=by rw[W.1];exact al
  have q:Hv ((xs.flatMap aL.cells)[k*2]?=some (.int ((xs[k]?.getD aL.zero).block))):=Hd<|bO (cells:=aL.cells) (s:=2) (z:=aL.zero) (r:=0) (fun _=>rfl) u (by omega)
  have ak:=bS q.1;have B:Hv ((xs.flatMap aL.cells)[k*2+1]?=some (.int ((xs[k]?.getD aL.zero).pin))):=Hd<|bO (cells:=aL.cells) (s:=2) (z:=aL.zero) (r:=1) (fun _=>rfl) u (by omega)
  have Z:=bS B.1;have ap:=eP (xs.flatMap aL.cells) (k*2+2)
  try simp only[aO]at ak
  try simp only[aO]at Z
  have R:(k+1)*2=k*2+2:=by omega
  generalize K:bE ((xs.flatMap aL.cells).take (k*2))=K0 at *;generalize J:bE ((xs.flatMap aL.cells).take (k*2+1))=K1 at *;generalize I:bE ((xs.flatMap aL.cells).take (k*2+2))=K2 at *;have D:=H.1;obtain⟨ah,H,ai⟩:=hd3 K J I;obtain⟨i0,i1⟩:=ib (by omega:k<n);have U:=Hd R;clear u R K J I;obtain⟨c0,f0,av⟩:=Y.1.get j.1 (by omega) q.1;have aj:=Hd (Y.1.put j.1 q.1 (y:=k0+(K0:Int)) (by rw[ah.1]));obtain⟨c1,f1,au⟩:=Y.1.get j.1 (by omega) B.1;have af:=Hd (aj.1.put j.1 B.1 (y:=k0+(K0:Int)+1) (by rw[H.1];omega));go_wp2;go_roundw
  ·exact⟨k+1,by omega,by go_num,by rw[U.1,ai.1];congr 1;omega,by rw[U.1];exact af.1⟩
  simp[intOf];omega
 have ae:k=n:=by omega
 subst ae;have hd:=Y.1.done (by rw[bW (s:=2) (fun _=>rfl),W.1];exact Nat.le_refl _);have HD:=Hd hd;have HV:Hv (bE ((xs.flatMap aL.cells).take (k*2))=aO (aZ xs)):=Hd<|by show _=_;rw[G.1,List.take_of_length_le (by rw[bW (s:=2) (fun _=>rfl),W.1];exact Nat.le_refl _)]
 rw[HV.1];clear hd;go_wp2;go_ret;exact⟨rfl,HD.1.1,HD.1.2⟩
theorem BK(A:Oh)(n c:Nat)(xs:List Cn)(F:List Nat)(k0:Int)(w:World)(h:dJ w (bL xs) (.slice A n c) F)(hF:F.Nodup)(aV:0<=k0)(B:k0+(aO (bL xs):Int)<=1099511627776) :
  Calls Tryz.prog 62 #[.slice A n c,.int .i64 k0] w fun e w'=>e=.returned (.int .i64 (k0+(aO (bL xs):Int)))/\dJ w' (mkC k0 (bL xs)) (.slice A n c) F/\iZ F w w':=by
 have hl:xs.length=n:=by have h1:=jB h;unfold bL at h1;rw[bW (s:=4) (fun _=>rfl)]at h1;omega
 have hn:=j3 h;obtain⟨HL,HO,j⟩:=hd3 hl h hF;have K:Hv (aO (bL xs)=bE (xs.flatMap Cn.cells)):=Hd<|by show _=_;rw[bL,aO]
 rw[K.1]at B;have D:=Hd B;clear h hF hl;by_cases aJ:n=0
 ·subst aJ;have hx:xs=[]:=List.eq_nil_of_length_eq_zero HL.1;subst hx;go_enter Tryz.func62,Tryz.ntmps62;go_wp2
  go_loopw[1,5] (fun v i wr=>v=.int .i64 k0/\i=.int .i64 0/\w=wr) (fun _ _ _=>0)
  ·exact⟨rfl,rfl,rfl⟩
  obtain⟨rfl,rfl,rfl⟩:=hrel;go_wp2;go_ret;exact⟨aQ (by rw[K.1];simp[bE]),HO.1,iZ.refl _ _⟩
 obtain⟨g,rfl,Q⟩:=mV (k0:=k0) HO.1 (by rw[jB HO.1];omega);have av:=Hd Q;clear Q HO;go_enter Tryz.func62,Tryz.ntmps62;go_wp2
 go_loopw[1,5] (fun v i wr=>∃k:Nat,k<=n/\i=.int .i64 (k:Int)/\v=.int .i64 (k0+(bE ((xs.flatMap Cn.cells).take (k*4)):Int))/\Mkd F 158 4 n c g k0 (xs.flatMap Cn.cells) w wr (k*4)) (fun _ i _=>n-(intOf i).toNat)
 ·exact⟨0,by omega,rfl,by simp[bE],by rw[Nat.zero_mul];exact av.1⟩
 obtain⟨k,hk,rfl,rfl,hm⟩:=hrel;have HM:=Hd hm;clear hm;by_cases aA:k<n
 ·have q:k<xs.length:=by rw[HL.1];exact aA
  have I:Hv ((xs.flatMap Cn.cells)[k*4]?=some (.int ((xs[k]?.getD Cn.zero).node))):=Hd<|bO (cells:=Cn.cells) (s:=4) (z:=Cn.zero) (r:=0) (fun _=>rfl) q (by omega)
  have aE:=bS I.1;have G:Hv ((xs.flatMap Cn.cells)[k*4+1]?=some (.int ((xs[k]?.getD Cn.zero).src.block))):=Hd<|bO (cells:=Cn.cells) (s:=4) (z:=Cn.zero) (r:=1) (fun _=>rfl) q (by omega)
  have aF:=bS G.1;have H:Hv ((xs.flatMap Cn.cells)[k*4+2]?=some (.int ((xs[k]?.getD Cn.zero).src.pin))):=Hd<|bO (cells:=Cn.cells) (s:=4) (z:=Cn.zero) (r:=2) (fun _=>rfl) q (by omega)
  have ay:=bS H.1;have ak:Hv ((xs.flatMap Cn.cells)[k*4+3]?=some (aZ (xs[k]?.getD Cn.zero).sinks)):=Hd<|bO (cells:=Cn.cells) (s:=4) (z:=Cn.zero) (r:=3) (fun _=>rfl) q (by omega)
  have a4:=bS ak.1;have a0:=eP (xs.flatMap Cn.cells) (k*4+4)
  try simp only[aO]at aE
  try simp only[aO]at aF
  try simp only[aO]at ay
  have R:(k+1)*4=k*4+4:=by omega
  generalize al:bE ((xs.flatMap Cn.cells).take (k*4))=K0 at *;generalize V:bE ((xs.flatMap Cn.cells).take (k*4+1))=K1 at *;generalize ae:bE ((xs.flatMap Cn.cells).take (k*4+2))=K2 at *;generalize ai:bE ((xs.flatMap Cn.cells).take (k*4+3))=K3 at *;generalize U:bE ((xs.flatMap Cn.cells).take (k*4+4))=K4 at *;generalize Z:aO (aZ (xs[k]?.getD Cn.zero).sinks)=q3 at *;have B:=D.1;obtain⟨aC,D,aL,aB,az,ah⟩:=hd6 al V ae ai U Z;obtain⟨i0,i1⟩:=ib (by omega:k<n);have ad:=Hd R;clear q R al V ae ai U Z;obtain⟨c0,f0,aD⟩:=HM.1.get j.1 (by omega) I.1;have ax:=Hd (HM.1.put j.1 I.1 (y:=k0+(K0:Int)) (by rw[aC.1]));obtain⟨c1,f1,aM⟩:=HM.1.get j.1 (by omega) G.1;have aI:=Hd (ax.1.put j.1 G.1 (y:=k0+(K0:Int)+1) (by rw[D.1];omega));obtain⟨c2,f2,aH⟩:=HM.1.get j.1 (by omega) H.1;have aK:=Hd (aI.1.put j.1 H.1 (y:=k0+(K0:Int)+1+1) (by rw[aL.1];omega));obtain⟨S3,m3,p3,G3,Y,am,ag,af,W⟩:=aK.1.row j.1 ak.1;rw[mU (by omega),mU (by omega),mU (by omega)]at Y;simp only[World.size_setCell]at am;obtain⟨J,ap,u⟩:=hd3 ag W af;clear ag W af;have ao:=j3 J.1;go_wp2_with fail;refine(EL S3 m3 p3 _ G3 _ _ J.1 u.1 (by omega) (by rw[ah.1];omega)).mono ?_;rw[ah.1];rintro _ w1 ⟨rfl,o1,g1⟩;have aG:=Hd (ap.1 _ w1 (by rw[aB.1];omega) o1 g1);clear o1 g1 J ap u ao c0 f0 aD c1 f1 aM c2 f2 aH Y am;go_wp2;go_roundw
  ·exact⟨k+1,by omega,by go_num,by rw[ad.1,az.1];congr 1;omega,by rw[ad.1];exact aG.1⟩
  simp[intOf];omega
 have au:k=n:=by omega
 subst au;have hd:=HM.1.done (by rw[bW (s:=4) (fun _=>rfl),HL.1];exact Nat.le_refl _);have HD:=Hd hd;have HV:Hv (bE ((xs.flatMap Cn.cells).take (k*4))=aO (bL xs)):=Hd<|by show _=_;rw[K.1,List.take_of_length_le (by rw[bW (s:=4) (fun _=>rfl),HL.1];exact Nat.le_refl _)]
 rw[HV.1];clear hd;go_wp2;go_ret;exact⟨rfl,HD.1.1,HD.1.2⟩
theorem AU(A:Oh)(n c:Nat)(xs:List Rou)(F:List Nat)(k0:Int)(w:World)(h:dJ w (bM xs) (.slice A n c) F)(hF:F.Nodup)(aS:0<=k0)(B:k0+(aO (bM xs):Int)<=1099511627776) :
  Calls Tryz.prog 64 #[.slice A n c,.int .i64 k0] w fun e w'=>e=.returned (.int .i64 (k0+(aO (bM xs):Int)))/\dJ w' (mkC k0 (bM xs)) (.slice A n c) F/\iZ F w w':=by
 have hl:xs.length=n:=by have h1:=jB h;unfold bM at h1;rw[bW (s:=2) (fun _=>rfl)]at h1;omega
 have hn:=j3 h;obtain⟨HL,HO,af⟩:=hd3 hl h hF;have H:Hv (aO (bM xs)=bE (xs.flatMap Rou.cells)):=Hd<|by show _=_;rw[bM,aO]
 rw[H.1]at B;have G:=Hd B;clear h hF hl;by_cases j:n=0
 ·subst j;have hx:xs=[]:=List.eq_nil_of_length_eq_zero HL.1;subst hx;go_enter Tryz.func64,Tryz.ntmps64;go_wp2
  go_loopw[1,5] (fun v i wr=>v=.int .i64 k0/\i=.int .i64 0/\w=wr) (fun _ _ _=>0)
  ·exact⟨rfl,rfl,rfl⟩
  obtain⟨rfl,rfl,rfl⟩:=hrel;go_wp2;go_ret;exact⟨aQ (by rw[H.1];simp[bE]),HO.1,iZ.refl _ _⟩
 obtain⟨g,rfl,V⟩:=mV (k0:=k0) HO.1 (by rw[jB HO.1];omega);have aw:=Hd V;clear V HO;go_enter Tryz.func64,Tryz.ntmps64;go_wp2
 go_loopw[1,5] (fun v i wr=>∃k:Nat,k<=n/\i=.int .i64 (k:Int)/\v=.int .i64 (k0+(bE ((xs.flatMap Rou.cells).take (k*2)):Int))/\Mkd F 114 2 n c g k0 (xs.flatMap Rou.cells) w wr (k*2)) (fun _ i _=>n-(intOf i).toNat)
 ·exact⟨0,by omega,rfl,by simp[bE],by rw[Nat.zero_mul];exact aw.1⟩
 obtain⟨k,hk,rfl,rfl,hm⟩:=hrel;have HM:=Hd hm;clear hm;by_cases az:k<n
 ·have I:k<xs.length:=by rw[HL.1];exact az
  have aj:Hv ((xs.flatMap Rou.cells)[k*2]?=some (aI (xs[k]?.getD Rou.zero).nodes)):=Hd<|bO (cells:=Rou.cells) (s:=2) (z:=Rou.zero) (r:=0) (fun _=>rfl) I (by omega)
  have aW:=bS aj.1;have ad:Hv ((xs.flatMap Rou.cells)[k*2+1]?=some (aI (xs[k]?.getD Rou.zero).from_)):=Hd<|bO (cells:=Rou.cells) (s:=2) (z:=Rou.zero) (r:=1) (fun _=>rfl) I (by omega)
  have aZ:=bS ad.1;have a1:=eP (xs.flatMap Rou.cells) (k*2+2);have Y:(k+1)*2=k*2+2:=by omega
  generalize aq:bE ((xs.flatMap Rou.cells).take (k*2))=K0 at *;generalize Z:bE ((xs.flatMap Rou.cells).take (k*2+1))=K1 at *;generalize al:bE ((xs.flatMap Rou.cells).take (k*2+2))=K2 at *;generalize Q:aO (aI (xs[k]?.getD Rou.zero).nodes)=q0 at *;generalize hq1:aO (aI (xs[k]?.getD Rou.zero).from_)=q1 at *;have B:=G.1;obtain⟨aA,G,aE,ak,K⟩:=hd5 aq Z al Q hq1;obtain⟨i0,i1⟩:=ib (by omega:k<n);have ag:=Hd Y;clear I Y aq Z al Q hq1;obtain⟨S0,m0,p0,G0,ay,aB,ae,j,ap⟩:=HM.1.row af.1 aj.1;obtain⟨D,R,u⟩:=hd3 ae ap j;clear ae ap j;have ai:=j3 D.1;go_wp2_with fail;refine(mW S0 m0 p0 _ G0 _ _ D.1 u.1 (by omega) (by rw[ak.1];omega)).mono ?_;rw[ak.1];rintro _ w1 ⟨rfl,o1,g1⟩;have ax:=Hd (R.1 _ w1 (by rw[aA.1]) o1 g1);clear o1 g1 D R u ai ay aB;obtain⟨S1,m1,p1,G1,aC,aF,U,W,ah⟩:=ax.1.row af.1 ad.1;obtain⟨J,ao,q⟩:=hd3 U ah W;clear U ah W;have am:=j3 J.1;go_wp2_with fail;refine(mW S1 m1 p1 _ G1 _ _ J.1 q.1 (by omega) (by rw[K.1];omega)).mono ?_;rw[K.1];rintro _ w2 ⟨rfl,o2,g2⟩;have aD:=Hd (ao.1 _ w2 (by rw[G.1];omega) o2 g2);clear o2 g2 J ao q am aC aF;go_wp2;go_roundw
  ·exact⟨k+1,by omega,by go_num,by rw[ag.1,aE.1];congr 1;omega,by rw[ag.1];exact aD.1⟩
  simp[intOf];omega
 have av:k=n:=by omega
 subst av;have hd:=HM.1.done (by rw[bW (s:=2) (fun _=>rfl),HL.1];exact Nat.le_refl _);have HD:=Hd hd;have HV:Hv (bE ((xs.flatMap Rou.cells).take (k*2))=aO (bM xs)):=Hd<|by show _=_;rw[H.1,List.take_of_length_le (by rw[bW (s:=2) (fun _=>rfl),HL.1];exact Nat.le_refl _)]
 rw[HV.1];clear hd;go_wp2;go_ret;exact⟨rfl,HD.1.1,HD.1.2⟩
theorem EM(A:Oh)(n c:Nat)(xs:List Lt)(F:List Nat)(k0:Int)(w:World)(h:dJ w (aj xs) (.slice A n c) F)(hF:F.Nodup)(aF:0<=k0)(u:k0+(aO (aj xs):Int)<=1099511627776) :
  Calls Tryz.prog 102 #[.slice A n c,.int .i64 k0] w fun e w'=>e=.returned (.int .i64 (k0+(aO (aj xs):Int)))/\dJ w' (mkC k0 (aj xs)) (.slice A n c) F/\iZ F w w':=by
 have hl:xs.length=n:=by have h1:=jB h;unfold aj at h1;rw[bW (s:=2) (fun _=>rfl)]at h1;omega
 have hn:=j3 h;obtain⟨HL,HO,H⟩:=hd3 hl h hF;have I:Hv (aO (aj xs)=bE (xs.flatMap Lt.cells)):=Hd<|by show _=_;rw[aj,aO]
 rw[I.1]at u;have D:=Hd u;clear h hF hl;by_cases j:n=0
 ·subst j;have hx:xs=[]:=List.eq_nil_of_length_eq_zero HL.1;subst hx;go_enter Tryz.func102,Tryz.ntmps102;go_wp2
  go_loopw[1,5] (fun v i wr=>v=.int .i64 k0/\i=.int .i64 0/\w=wr) (fun _ _ _=>0)
  ·exact⟨rfl,rfl,rfl⟩
  obtain⟨rfl,rfl,rfl⟩:=hrel;go_wp2;go_ret;exact⟨aQ (by rw[I.1];simp[bE]),HO.1,iZ.refl _ _⟩
 obtain⟨g,rfl,R⟩:=mV (k0:=k0) HO.1 (by rw[jB HO.1];omega);have ao:=Hd R;clear R HO;go_enter Tryz.func102,Tryz.ntmps102;go_wp2
 go_loopw[1,5] (fun v i wr=>∃k:Nat,k<=n/\i=.int .i64 (k:Int)/\v=.int .i64 (k0+(bE ((xs.flatMap Lt.cells).take (k*2)):Int))/\Mkd F 96 2 n c g k0 (xs.flatMap Lt.cells) w wr (k*2)) (fun _ i _=>n-(intOf i).toNat)
 ·exact⟨0,by omega,rfl,by simp[bE],by rw[Nat.zero_mul];exact ao.1⟩
 obtain⟨k,hk,rfl,rfl,hm⟩:=hrel;have HM:=Hd hm;clear hm;by_cases aq:k<n
 ·have J:k<xs.length:=by rw[HL.1];exact aq
  have ae:Hv ((xs.flatMap Lt.cells)[k*2]?=some (aI (xs[k]?.getD Lt.zero).ins)):=Hd<|bO (cells:=Lt.cells) (s:=2) (z:=Lt.zero) (r:=0) (fun _=>rfl) J (by omega)
  have aH:=bS ae.1;have G:Hv ((xs.flatMap Lt.cells)[k*2+1]?=some (.int ((xs[k]?.getD Lt.zero).mask))):=Hd<|bO (cells:=Lt.cells) (s:=2) (z:=Lt.zero) (r:=1) (fun _=>rfl) J (by omega)
  have av:=bS G.1;have aK:=eP (xs.flatMap Lt.cells) (k*2+2)
  try simp only[aO]at av
  have U:(k+1)*2=k*2+2:=by omega
  generalize ai:bE ((xs.flatMap Lt.cells).take (k*2))=K0 at *;generalize V:bE ((xs.flatMap Lt.cells).take (k*2+1))=K1 at *;generalize ag:bE ((xs.flatMap Lt.cells).take (k*2+2))=K2 at *;generalize K:aO (aI (xs[k]?.getD Lt.zero).ins)=q0 at *;have u:=D.1;obtain⟨ar,D,ax,af⟩:=hd4 ai V ag K;obtain⟨i0,i1⟩:=ib (by omega:k<n);have Z:=Hd U;clear J U ai V ag K;obtain⟨S0,m0,p0,G0,ap,au,W,j,ah⟩:=HM.1.row H.1 ae.1;obtain⟨B,Q,q⟩:=hd3 W ah j;clear W ah j;have ad:=j3 B.1;go_wp2_with fail;refine(mW S0 m0 p0 _ G0 _ _ B.1 q.1 (by omega) (by rw[af.1];omega)).mono ?_;rw[af.1];rintro _ w1 ⟨rfl,o1,g1⟩;have Y:=Hd (Q.1 _ w1 (by rw[ar.1]) o1 g1);clear o1 g1 B Q q ad ap au;obtain⟨c1,f1,aN⟩:=Y.1.get H.1 (by omega) G.1;have aw:=Hd (Y.1.put H.1 G.1 (y:=k0+(K0:Int)+(q0:Int)) (by rw[D.1];omega));go_wp2;go_roundw
  ·exact⟨k+1,by omega,by go_num,by rw[Z.1,ax.1];congr 1;omega,by rw[Z.1];exact aw.1⟩
  simp[intOf];omega
 have am:k=n:=by omega
 subst am;have hd:=HM.1.done (by rw[bW (s:=2) (fun _=>rfl),HL.1];exact Nat.le_refl _);have HD:=Hd hd;have HV:Hv (bE ((xs.flatMap Lt.cells).take (k*2))=aO (aj xs)):=Hd<|by show _=_;rw[I.1,List.take_of_length_le (by rw[bW (s:=2) (fun _=>rfl),HL.1];exact Nat.le_refl _)]
 rw[HV.1];clear hd;go_wp2;go_ret;exact⟨rfl,HD.1.1,HD.1.2⟩
theorem EN(A:Oh)(n c:Nat)(xs:List Sq)(F:List Nat)(k0:Int)(w:World)(h:dJ w (aY xs) (.slice A n c) F)(hF:F.Nodup)(aR:0<=k0)(B:k0+(aO (aY xs):Int)<=1099511627776) :
  Calls Tryz.prog 101 #[.slice A n c,.int .i64 k0] w fun e w'=>e=.returned (.int .i64 (k0+(aO (aY xs):Int)))/\dJ w' (mkC k0 (aY xs)) (.slice A n c) F/\iZ F w w':=by
 have hl:xs.length=n:=by have h1:=jB h;unfold aY at h1;rw[bW (s:=3) (fun _=>rfl)]at h1;omega
 have hn:=j3 h;obtain⟨HL,HO,j⟩:=hd3 hl h hF;have I:Hv (aO (aY xs)=bE (xs.flatMap Sq.cells)):=Hd<|by show _=_;rw[aY,aO]
 rw[I.1]at B;have D:=Hd B;clear h hF hl;by_cases aB:n=0
 ·subst aB;have hx:xs=[]:=List.eq_nil_of_length_eq_zero HL.1;subst hx;go_enter Tryz.func101,Tryz.ntmps101;go_wp2
  go_loopw[1,5] (fun v i wr=>v=.int .i64 k0/\i=.int .i64 0/\w=wr) (fun _ _ _=>0)
  ·exact⟨rfl,rfl,rfl⟩
  obtain⟨rfl,rfl,rfl⟩:=hrel;go_wp2;go_ret;exact⟨aQ (by rw[I.1];simp[bE]),HO.1,iZ.refl _ _⟩
 obtain⟨g,rfl,Q⟩:=mV (k0:=k0) HO.1 (by rw[jB HO.1];omega);have aq:=Hd Q;clear Q HO;go_enter Tryz.func101,Tryz.ntmps101;go_wp2
 go_loopw[1,5] (fun v i wr=>∃k:Nat,k<=n/\i=.int .i64 (k:Int)/\v=.int .i64 (k0+(bE ((xs.flatMap Sq.cells).take (k*3)):Int))/\Mkd F 91 3 n c g k0 (xs.flatMap Sq.cells) w wr (k*3)) (fun _ i _=>n-(intOf i).toNat)
 ·exact⟨0,by omega,rfl,by simp[bE],by rw[Nat.zero_mul];exact aq.1⟩
 obtain⟨k,hk,rfl,rfl,hm⟩:=hrel;have HM:=Hd hm;clear hm;by_cases au:k<n
 ·have q:k<xs.length:=by rw[HL.1];exact au
  have H:Hv ((xs.flatMap Sq.cells)[k*3]?=some (.int ((xs[k]?.getD Sq.zero).kind))):=Hd<|bO (cells:=Sq.cells) (s:=3) (z:=Sq.zero) (r:=0) (fun _=>rfl) q (by omega)
  have ay:=bS H.1;have G:Hv ((xs.flatMap Sq.cells)[k*3+1]?=some (.int ((xs[k]?.getD Sq.zero).init))):=Hd<|bO (cells:=Sq.cells) (s:=3) (z:=Sq.zero) (r:=1) (fun _=>rfl) q (by omega)
  have az:=bS G.1;have V:Hv ((xs.flatMap Sq.cells)[k*3+2]?=some (aI (xs[k]?.getD Sq.zero).ins)):=Hd<|bO (cells:=Sq.cells) (s:=3) (z:=Sq.zero) (r:=2) (fun _=>rfl) q (by omega)
  have aS:=bS V.1;have aV:=eP (xs.flatMap Sq.cells) (k*3+3)
  try simp only[aO]at ay
  try simp only[aO]at az
  have R:(k+1)*3=k*3+3:=by omega
  generalize aj:bE ((xs.flatMap Sq.cells).take (k*3))=K0 at *;generalize U:bE ((xs.flatMap Sq.cells).take (k*3+1))=K1 at *;generalize Z:bE ((xs.flatMap Sq.cells).take (k*3+2))=K2 at *;generalize ag:bE ((xs.flatMap Sq.cells).take (k*3+3))=K3 at *;generalize hq2:aO (aI (xs[k]?.getD Sq.zero).ins)=q2 at *;have B:=D.1;obtain⟨aw,D,aD,av,af⟩:=hd5 aj U Z ag hq2;obtain⟨i0,i1⟩:=ib (by omega:k<n);have W:=Hd R;clear q R aj U Z ag hq2;obtain⟨c0,f0,ax⟩:=HM.1.get j.1 (by omega) H.1;have ar:=Hd (HM.1.put j.1 H.1 (y:=k0+(K0:Int)) (by rw[aw.1]));obtain⟨c1,f1,aE⟩:=HM.1.get j.1 (by omega) G.1;have aA:=Hd (ar.1.put j.1 G.1 (y:=k0+(K0:Int)+1) (by rw[D.1];omega));obtain⟨S2,m2,p2,G2,K,ah,ae,Y,ak⟩:=aA.1.row j.1 V.1;rw[mU (by omega),mU (by omega)]at K;simp only[World.size_setCell]at ah;obtain⟨J,ai,u⟩:=hd3 ae ak Y;clear ae ak Y;have ad:=j3 J.1;go_wp2_with fail;refine(mW S2 m2 p2 _ G2 _ _ J.1 u.1 (by omega) (by rw[af.1];omega)).mono ?_;rw[af.1];rintro _ w1 ⟨rfl,o1,g1⟩;have aC:=Hd (ai.1 _ w1 (by rw[aD.1];omega) o1 g1);clear o1 g1 J ai u ad c0 f0 ax c1 f1 aE K ah;go_wp2;go_roundw
  ·exact⟨k+1,by omega,by go_num,by rw[W.1,av.1];congr 1;omega,by rw[W.1];exact aC.1⟩
  simp[intOf];omega
 have ap:k=n:=by omega
 subst ap;have hd:=HM.1.done (by rw[bW (s:=3) (fun _=>rfl),HL.1];exact Nat.le_refl _);have HD:=Hd hd;have HV:Hv (bE ((xs.flatMap Sq.cells).take (k*3))=aO (aY xs)):=Hd<|by show _=_;rw[I.1,List.take_of_length_le (by rw[bW (s:=3) (fun _=>rfl),HL.1];exact Nat.le_refl _)]
 rw[HV.1];clear hd;go_wp2;go_ret;exact⟨rfl,HD.1.1,HD.1.2⟩
theorem rz{P:Program}{f:FuncId}{i j n p:Nat}{W w:World}{u:List Pc}{cs:List Cel}{vs:List Value}{c:Cel}{A:Oh}{k0:Int}(h:aD W w u)(hi:u[i]?=some (.cels cs vs))(hc:cs[j]?=some c)(B:vs[j]?=some (.slice A n p))
  (hf:∀F,dJ w c (.slice A n p) F→F.Nodup→Calls P f #[.slice A n p,.int .i64 k0] w fun e w'=>e=.returned (.int .i64 (k0+(aO c:Int)))/\dJ w' (mkC k0 c) (.slice A n p) F/\iZ F w w') :
  Calls P f #[.slice A n p,.int .i64 k0] w fun e w'=>e=.returned (.int .i64 (k0+(aO c:Int)))/\aD W w' (u.set i (.cels (cs.set j (mkC k0 c)) vs)):=by
 obtain⟨F,h1,h2,h3,H⟩:=h.part i hi;have g:dh w cs vs F:=h1;obtain⟨c0,Q,K,G,F2,e1,e2,rfl,I,J⟩:=g.at_ (List.getElem?_eq_some_iff.1 hc).1;rw[hc]at e1;rw[B]at e2;injection e1 with e1
 injection e2 with e2
 subst e1 e2;have z:=h2;rw[List.nodup_append,List.nodup_append]at h2;obtain⟨n1,⟨n2,n3,n4⟩,n5⟩:=h2;have q:=g.lt;refine(hf G I n2).mono ?_;rintro e w' ⟨rfl,k1,k2⟩;have D:=J w' _ _ G k1 (fun k hk=>k2.block k (q k (by simp[hk])) fun hm=>n5 k hk k (by simp[hm]) rfl) (fun k hk=>k2.block k (q k (by simp[hk])) fun hm=>n4 k hm k hk rfl);rw[Ee B]at D;exact⟨rfl,H w' _ _ D z (fun k hk => .inl hk) (k2.more fun k hk=>by simp[hk])⟩
theorem uB{α:Type}{l:List α}{i:Nat}{x y:α}(h:l[i]?=some x):(l.set i y)[i]?=some y:=List.getElem?_set_self (List.getElem?_eq_some_iff.1 h).1
theorem uC(q inputs:Int)(SA LA OA:Oh)(sn sc ln lc on oc:Nat)(sq:List Sq)(lt:List Lt)(ou:List Int)(u:List Cel)(z:Value)(B:List Value)(W:World)(D:List Pc)(i:Nat)(k0:Int)(w:World)(h:aD W w D)(hi:D[i]?=some (.cels (.int q::aY sq::aj lt::aI ou::u) (z::.slice SA sn sc::.slice LA ln lc::.slice OA on oc::B)))(ar:0<=k0)(aq:k0+((aO (aY sq)+aO (aj lt)+aO (aI ou):Nat):Int)<=1099511627776) :
  Calls Tryz.prog 29 #[.agg #[.int .i64 inputs,.slice SA sn sc,.slice LA ln lc,.slice OA on oc],.int .i64 k0] w fun e w'=>e=.returned (.int .i64 (k0+(aO (aY sq):Int)+(aO (aj lt):Int)+(aO (aI ou):Int)))/\aD W w' (D.set i (.cels (.int q::mkC (k0) (aY sq)::mkC (k0+(aO (aY sq):Int)) (aj lt)::mkC (k0+(aO (aY sq):Int)+(aO (aj lt):Int)) (aI ou)::u) (z::.slice SA sn sc::.slice LA ln lc::.slice OA on oc::B))):=by
 have HO:=Hd (h.consBlk #[.int .i64 inputs,.slice SA sn sc,.slice LA ln lc,.slice OA on oc] 41);have U:(Pc.blk w.heap.size #[.int .i64 inputs,.slice SA sn sc,.slice LA ln lc,.slice OA on oc] 41::D)[i+1]?=some (.cels (.int q::aY sq::aj lt::aI ou::u) (z::.slice SA sn sc::.slice LA ln lc::.slice OA on oc::B)):=hi;have Z:=Hd U;clear h hi U;generalize hq1:aO (aY sq)=H at *;have Q:=Hd hq1;generalize hq2:aO (aj lt)=q2 at *;have Y:=Hd hq2;generalize V:aO (aI ou)=q3 at *;have I:=Hd V;clear hq1 hq2 V;go_enter Tryz.func29,Tryz.ntmps29;go_upto_region 1 with fail;obtain⟨gx,G⟩:∃g,w.heap.size=g:=⟨_,rfl⟩;rw[G]at HO Z
 (try rw[G])
 clear G;generalize w.alloc (.cells #[.int .i64 inputs,.slice SA sn sc,.slice LA ln lc,.slice OA on oc] 41)=W0 at *;obtain⟨-,x1,R⟩:=iC ((HO.1.blk 0 rfl).1);go_wp2_with fail;refine(rz (i:=i+1) (j:=1) HO.1 Z.1 rfl rfl (fun F a b=>EN SA sn sc _ F _ _ a b (by omega) (by rw[Q.1];omega))).mono ?_;rw[Q.1];rintro _ w0 ⟨rfl,o0⟩;have K:Hv (aD W w0 ((Pc.blk gx #[.int .i64 inputs,.slice SA sn sc,.slice LA ln lc,.slice OA on oc] 41::D).set (i+1) (.cels (.int q::mkC (k0) (aY sq)::aj lt::aI ou::u) (z::.slice SA sn sc::.slice LA ln lc::.slice OA on oc::B)))):=Hd o0;have ai:=Hd (uB (y:=Pc.cels (.int q::mkC (k0) (aY sq)::aj lt::aI ou::u) (z::.slice SA sn sc::.slice LA ln lc::.slice OA on oc::B)) Z.1);clear o0 R x1;obtain⟨-,-,x2,R⟩:=j6 ((K.1.blk 0 rfl).1);go_wp2_with fail;refine(rz (i:=i+1) (j:=2) K.1 ai.1 rfl rfl (fun F a b=>EM LA ln lc _ F _ _ a b (by omega) (by rw[Y.1];omega))).mono ?_;rw[Y.1];rintro _ w1 ⟨rfl,o1⟩;rw[List.set_set]at o1;have J:Hv (aD W w1 ((Pc.blk gx #[.int .i64 inputs,.slice SA sn sc,.slice LA ln lc,.slice OA on oc] 41::D).set (i+1) (.cels (.int q::mkC (k0) (aY sq)::mkC (k0+(H:Int)) (aj lt)::aI ou::u) (z::.slice SA sn sc::.slice LA ln lc::.slice OA on oc::B)))):=Hd o1;have ak:=Hd (uB (y:=Pc.cels (.int q::mkC (k0) (aY sq)::mkC (k0+(H:Int)) (aj lt)::aI ou::u) (z::.slice SA sn sc::.slice LA ln lc::.slice OA on oc::B)) Z.1);clear o1 R x2;obtain⟨-,-,-,x3,R⟩:=bA ((J.1.blk 0 rfl).1);go_wp2_with fail;refine(rz (i:=i+1) (j:=3) J.1 ak.1 rfl rfl (fun F a b=>mW OA on oc _ F _ _ a b (by omega) (by rw[I.1];omega))).mono ?_;rw[I.1];rintro _ w2 ⟨rfl,o2⟩;rw[List.set_set]at o2;have ad:Hv (aD W w2 ((Pc.blk gx #[.int .i64 inputs,.slice SA sn sc,.slice LA ln lc,.slice OA on oc] 41::D).set (i+1) (.cels (.int q::mkC (k0) (aY sq)::mkC (k0+(H:Int)) (aj lt)::mkC (k0+(H:Int)+(q2:Int)) (aI ou)::u) (z::.slice SA sn sc::.slice LA ln lc::.slice OA on oc::B)))):=Hd o2;have ax:=Hd (uB (y:=Pc.cels (.int q::mkC (k0) (aY sq)::mkC (k0+(H:Int)) (aj lt)::mkC (k0+(H:Int)+(q2:Int)) (aI ou)::u) (z::.slice SA sn sc::.slice LA ln lc::.slice OA on oc::B)) Z.1);clear o2 R x3;go_wp2;go_ret;exact⟨rfl,ad.1.tail⟩
theorem AV(B:Int)(x:Lay)(SA LA OA BA CA PA RA:Oh)(sn sc ln lc on oc bn bc cn cc pn pc rn rc:Nat)(W:World)(G:List Pc)(i:Nat)(k0:Int)(w:World)(h:aD W w G)(hi:G[i]?=some (.cels [.int B,aY x.net.seqs,aj x.net.luts,aI x.net.outs,aa x.blocks,bL x.conns,aI x.place,bM x.routes] [.int .i64 x.net.inputs,.slice SA sn sc,.slice LA ln lc,.slice OA on oc,.slice BA bn bc,.slice CA cn cc,.slice PA pn pc,.slice RA rn rc]))(aM:0<=k0)(aG:k0+((aO (aY x.net.seqs)+aO (aj x.net.luts)+aO (aI x.net.outs)+aO (aa x.blocks)+aO (bL x.conns)+aO (aI x.place)+aO (bM x.routes):Nat):Int)<=1099511627776) :
  Calls Tryz.prog 16 #[.agg #[.int .i64 x.net.inputs,.slice SA sn sc,.slice LA ln lc,.slice OA on oc,.slice BA bn bc,.slice CA cn cc,.slice PA pn pc,.slice RA rn rc],.int .i64 k0] w fun e w'=>e=.returned (.int .i64 (k0+(aO (aY x.net.seqs):Int)+(aO (aj x.net.luts):Int)+(aO (aI x.net.outs):Int)+(aO (aa x.blocks):Int)+(aO (bL x.conns):Int)+(aO (aI x.place):Int)+(aO (bM x.routes):Int)))/\aD W w' (G.set i (.cels [.int B,mkC (k0) (aY x.net.seqs),mkC (k0+(aO (aY x.net.seqs):Int)) (aj x.net.luts),mkC (k0+(aO (aY x.net.seqs):Int)+(aO (aj x.net.luts):Int)) (aI x.net.outs),mkC (k0+(aO (aY x.net.seqs):Int)+(aO (aj x.net.luts):Int)+(aO (aI x.net.outs):Int)) (aa x.blocks),mkC (k0+(aO (aY x.net.seqs):Int)+(aO (aj x.net.luts):Int)+(aO (aI x.net.outs):Int)+(aO (aa x.blocks):Int)) (bL x.conns),mkC (k0+(aO (aY x.net.seqs):Int)+(aO (aj x.net.luts):Int)+(aO (aI x.net.outs):Int)+(aO (aa x.blocks):Int)+(aO (bL x.conns):Int)) (aI x.place),mkC (k0+(aO (aY x.net.seqs):Int)+(aO (aj x.net.luts):Int)+(aO (aI x.net.outs):Int)+(aO (aa x.blocks):Int)+(aO (bL x.conns):Int)+(aO (aI x.place):Int)) (bM x.routes)] [.int .i64 x.net.inputs,.slice SA sn sc,.slice LA ln lc,.slice OA on oc,.slice BA bn bc,.slice CA cn cc,.slice PA pn pc,.slice RA rn rc])):=by
 have HO:=Hd (h.consBlk #[.int .i64 x.net.inputs,.slice SA sn sc,.slice LA ln lc,.slice OA on oc,.slice BA bn bc,.slice CA cn cc,.slice PA pn pc,.slice RA rn rc] 46);have Y:(Pc.blk w.heap.size #[.int .i64 x.net.inputs,.slice SA sn sc,.slice LA ln lc,.slice OA on oc,.slice BA bn bc,.slice CA cn cc,.slice PA pn pc,.slice RA rn rc] 46::G)[i+1]?=some (.cels [.int B,aY x.net.seqs,aj x.net.luts,aI x.net.outs,aa x.blocks,bL x.conns,aI x.place,bM x.routes] [.int .i64 x.net.inputs,.slice SA sn sc,.slice LA ln lc,.slice OA on oc,.slice BA bn bc,.slice CA cn cc,.slice PA pn pc,.slice RA rn rc]):=hi;have J:=Hd Y;clear h hi Y;generalize hq1:aO (aY x.net.seqs)=q at *;have U:=Hd hq1;generalize hq2:aO (aj x.net.luts)=u at *;have ai:=Hd hq2;generalize ae:aO (aI x.net.outs)=z at *;have al:=Hd ae;generalize aq:aO (aa x.blocks)=D at *;have ah:=Hd aq;generalize ak:aO (bL x.conns)=K at *;have V:=Hd ak;generalize ag:aO (aI x.place)=q6 at *;have ap:=Hd ag;generalize Z:aO (bM x.routes)=q7 at *;have Q:=Hd Z;clear hq1 hq2 ae aq ak ag Z;go_enter Tryz.func16,Tryz.ntmps16;go_upto_region 1 with fail;obtain⟨gx,I⟩:∃g,w.heap.size=g:=⟨_,rfl⟩;rw[I]at HO J
 (try rw[I])
 clear I;generalize w.alloc (.cells #[.int .i64 x.net.inputs,.slice SA sn sc,.slice LA ln lc,.slice OA on oc,.slice BA bn bc,.slice CA cn cc,.slice PA pn pc,.slice RA rn rc] 46)=W0 at *;obtain⟨x0,x1,x2,x3,H⟩:=bA ((HO.1.blk 0 rfl).1);go_wp2_with fail;refine(uC _ _ SA LA OA sn sc ln lc on oc _ _ _ _ _ _ W _ (i+1) _ _ HO.1 J.1 (by omega) (by rw[U.1,ai.1,al.1];omega)).mono ?_;rw[U.1,ai.1,al.1];rintro _ w0 ⟨rfl,o0⟩;have R:Hv (aD W w0 ((Pc.blk gx #[.int .i64 x.net.inputs,.slice SA sn sc,.slice LA ln lc,.slice OA on oc,.slice BA bn bc,.slice CA cn cc,.slice PA pn pc,.slice RA rn rc] 46::G).set (i+1) (.cels [.int B,mkC (k0) (aY x.net.seqs),mkC (k0+(q:Int)) (aj x.net.luts),mkC (k0+(q:Int)+(u:Int)) (aI x.net.outs),aa x.blocks,bL x.conns,aI x.place,bM x.routes] [.int .i64 x.net.inputs,.slice SA sn sc,.slice LA ln lc,.slice OA on oc,.slice BA bn bc,.slice CA cn cc,.slice PA pn pc,.slice RA rn rc]))):=Hd o0;have aB:=Hd (uB (y:=Pc.cels [.int B,mkC (k0) (aY x.net.seqs),mkC (k0+(q:Int)) (aj x.net.luts),mkC (k0+(q:Int)+(u:Int)) (aI x.net.outs),aa x.blocks,bL x.conns,aI x.place,bM x.routes] [.int .i64 x.net.inputs,.slice SA sn sc,.slice LA ln lc,.slice OA on oc,.slice BA bn bc,.slice CA cn cc,.slice PA pn pc,.slice RA rn rc]) J.1);clear o0 H x0 x1 x2 x3;obtain⟨-,-,-,-,x4,H⟩:=Ob ((R.1.blk 0 rfl).1);go_wp2_with fail;refine(rz (i:=i+1) (j:=4) R.1 aB.1 rfl rfl (fun F a b=>AR BA bn bc _ F _ _ a b (by omega) (by rw[ah.1];omega))).mono ?_;rw[ah.1];rintro _ w1 ⟨rfl,o1⟩;rw[List.set_set]at o1;have ao:Hv (aD W w1 ((Pc.blk gx #[.int .i64 x.net.inputs,.slice SA sn sc,.slice LA ln lc,.slice OA on oc,.slice BA bn bc,.slice CA cn cc,.slice PA pn pc,.slice RA rn rc] 46::G).set (i+1) (.cels [.int B,mkC (k0) (aY x.net.seqs),mkC (k0+(q:Int)) (aj x.net.luts),mkC (k0+(q:Int)+(u:Int)) (aI x.net.outs),mkC (k0+(q:Int)+(u:Int)+(z:Int)) (aa x.blocks),bL x.conns,aI x.place,bM x.routes] [.int .i64 x.net.inputs,.slice SA sn sc,.slice LA ln lc,.slice OA on oc,.slice BA bn bc,.slice CA cn cc,.slice PA pn pc,.slice RA rn rc]))):=Hd o1;have az:=Hd (uB (y:=Pc.cels [.int B,mkC (k0) (aY x.net.seqs),mkC (k0+(q:Int)) (aj x.net.luts),mkC (k0+(q:Int)+(u:Int)) (aI x.net.outs),mkC (k0+(q:Int)+(u:Int)+(z:Int)) (aa x.blocks),bL x.conns,aI x.place,bM x.routes] [.int .i64 x.net.inputs,.slice SA sn sc,.slice LA ln lc,.slice OA on oc,.slice BA bn bc,.slice CA cn cc,.slice PA pn pc,.slice RA rn rc]) J.1);clear o1 H x4;obtain⟨-,-,-,-,-,x5,H⟩:=Oc ((ao.1.blk 0 rfl).1);go_wp2_with fail;refine(rz (i:=i+1) (j:=5) ao.1 az.1 rfl rfl (fun F a b=>BK CA cn cc _ F _ _ a b (by omega) (by rw[V.1];omega))).mono ?_;rw[V.1];rintro _ w2 ⟨rfl,o2⟩;rw[List.set_set]at o2;have am:Hv (aD W w2 ((Pc.blk gx #[.int .i64 x.net.inputs,.slice SA sn sc,.slice LA ln lc,.slice OA on oc,.slice BA bn bc,.slice CA cn cc,.slice PA pn pc,.slice RA rn rc] 46::G).set (i+1) (.cels [.int B,mkC (k0) (aY x.net.seqs),mkC (k0+(q:Int)) (aj x.net.luts),mkC (k0+(q:Int)+(u:Int)) (aI x.net.outs),mkC (k0+(q:Int)+(u:Int)+(z:Int)) (aa x.blocks),mkC (k0+(q:Int)+(u:Int)+(z:Int)+(D:Int)) (bL x.conns),aI x.place,bM x.routes] [.int .i64 x.net.inputs,.slice SA sn sc,.slice LA ln lc,.slice OA on oc,.slice BA bn bc,.slice CA cn cc,.slice PA pn pc,.slice RA rn rc]))):=Hd o2;have aA:=Hd (uB (y:=Pc.cels [.int B,mkC (k0) (aY x.net.seqs),mkC (k0+(q:Int)) (aj x.net.luts),mkC (k0+(q:Int)+(u:Int)) (aI x.net.outs),mkC (k0+(q:Int)+(u:Int)+(z:Int)) (aa x.blocks),mkC (k0+(q:Int)+(u:Int)+(z:Int)+(D:Int)) (bL x.conns),aI x.place,bM x.routes] [.int .i64 x.net.inputs,.slice SA sn sc,.slice LA ln lc,.slice OA on oc,.slice BA bn bc,.slice CA cn cc,.slice PA pn pc,.slice RA rn rc]) J.1);clear o2 H x5;obtain⟨-,-,-,-,-,-,x6,H⟩:=Od ((am.1.blk 0 rfl).1);go_wp2_with fail;refine(rz (i:=i+1) (j:=6) am.1 aA.1 rfl rfl (fun F a b=>mW PA pn pc _ F _ _ a b (by omega) (by rw[ap.1];omega))).mono ?_;rw[ap.1];rintro _ w3 ⟨rfl,o3⟩;rw[List.set_set]at o3;have af:Hv (aD W w3 ((Pc.blk gx #[.int .i64 x.net.inputs,.slice SA sn sc,.slice LA ln lc,.slice OA on oc,.slice BA bn bc,.slice CA cn cc,.slice PA pn pc,.slice RA rn rc] 46::G).set (i+1) (.cels [.int B,mkC (k0) (aY x.net.seqs),mkC (k0+(q:Int)) (aj x.net.luts),mkC (k0+(q:Int)+(u:Int)) (aI x.net.outs),mkC (k0+(q:Int)+(u:Int)+(z:Int)) (aa x.blocks),mkC (k0+(q:Int)+(u:Int)+(z:Int)+(D:Int)) (bL x.conns),mkC (k0+(q:Int)+(u:Int)+(z:Int)+(D:Int)+(K:Int)) (aI x.place),bM x.routes] [.int .i64 x.net.inputs,.slice SA sn sc,.slice LA ln lc,.slice OA on oc,.slice BA bn bc,.slice CA cn cc,.slice PA pn pc,.slice RA rn rc]))):=Hd o3;have aw:=Hd (uB (y:=Pc.cels [.int B,mkC (k0) (aY x.net.seqs),mkC (k0+(q:Int)) (aj x.net.luts),mkC (k0+(q:Int)+(u:Int)) (aI x.net.outs),mkC (k0+(q:Int)+(u:Int)+(z:Int)) (aa x.blocks),mkC (k0+(q:Int)+(u:Int)+(z:Int)+(D:Int)) (bL x.conns),mkC (k0+(q:Int)+(u:Int)+(z:Int)+(D:Int)+(K:Int)) (aI x.place),bM x.routes] [.int .i64 x.net.inputs,.slice SA sn sc,.slice LA ln lc,.slice OA on oc,.slice BA bn bc,.slice CA cn cc,.slice PA pn pc,.slice RA rn rc]) J.1);clear o3 H x6;obtain⟨-,-,-,-,-,-,-,x7,H⟩:=Ag ((af.1.blk 0 rfl).1);go_wp2_with fail;refine(rz (i:=i+1) (j:=7) af.1 aw.1 rfl rfl (fun F a b=>AU RA rn rc _ F _ _ a b (by omega) (by rw[Q.1];omega))).mono ?_;rw[Q.1];rintro _ w4 ⟨rfl,o4⟩;rw[List.set_set]at o4;have aC:Hv (aD W w4 ((Pc.blk gx #[.int .i64 x.net.inputs,.slice SA sn sc,.slice LA ln lc,.slice OA on oc,.slice BA bn bc,.slice CA cn cc,.slice PA pn pc,.slice RA rn rc] 46::G).set (i+1) (.cels [.int B,mkC (k0) (aY x.net.seqs),mkC (k0+(q:Int)) (aj x.net.luts),mkC (k0+(q:Int)+(u:Int)) (aI x.net.outs),mkC (k0+(q:Int)+(u:Int)+(z:Int)) (aa x.blocks),mkC (k0+(q:Int)+(u:Int)+(z:Int)+(D:Int)) (bL x.conns),mkC (k0+(q:Int)+(u:Int)+(z:Int)+(D:Int)+(K:Int)) (aI x.place),mkC (k0+(q:Int)+(u:Int)+(z:Int)+(D:Int)+(K:Int)+(q6:Int)) (bM x.routes)] [.int .i64 x.net.inputs,.slice SA sn sc,.slice LA ln lc,.slice OA on oc,.slice BA bn bc,.slice CA cn cc,.slice PA pn pc,.slice RA rn rc]))):=Hd o4;have aJ:=Hd (uB (y:=Pc.cels [.int B,mkC (k0) (aY x.net.seqs),mkC (k0+(q:Int)) (aj x.net.luts),mkC (k0+(q:Int)+(u:Int)) (aI x.net.outs),mkC (k0+(q:Int)+(u:Int)+(z:Int)) (aa x.blocks),mkC (k0+(q:Int)+(u:Int)+(z:Int)+(D:Int)) (bL x.conns),mkC (k0+(q:Int)+(u:Int)+(z:Int)+(D:Int)+(K:Int)) (aI x.place),mkC (k0+(q:Int)+(u:Int)+(z:Int)+(D:Int)+(K:Int)+(q6:Int)) (bM x.routes)] [.int .i64 x.net.inputs,.slice SA sn sc,.slice LA ln lc,.slice OA on oc,.slice BA bn bc,.slice CA cn cc,.slice PA pn pc,.slice RA rn rc]) J.1);clear o4 H x7;go_wp2;go_ret;exact⟨rfl,aC.1.tail⟩
theorem aD.rdc{W w:World}{g:List Pc}(h:aD W w g)(i j:Nat){cs:List Cel}{vs:List Value}{c:Cel}{v:Value}(hi:g[i]?=some (.cels cs vs))(hc:cs[j]?=some c)(u:vs[j]?=some v):RdC w w.heap.size c v:=by
 obtain⟨F,h1,h2,h3,_⟩:=h.part i hi;obtain⟨q,k1,k2,k3,_⟩:=iD.part (lo:=W.heap.size) (hi:=w.heap.size) ⟨F,h1,h2,h3⟩ hc u;exact iM.rd ⟨q,k1,k2,k3⟩
theorem nM{α:Type}{cells:α→List Cel}(h:∀x,bE (cells x)<=4*(1+dI (cells x))):∀xs:List α,bE (xs.flatMap cells)<=4*(xs.length+dI (xs.flatMap cells))
 | []=>by simp[bE]
 | x::xs=>by
  have h1:=h x;have h2:=nM h xs;rw[List.flatMap_cons,sO,jY,List.length_cons];omega
theorem mX(xs:List Int):aO (aI xs)<=4*szC (aI xs):=by rw[pE,aI,aO,ol];omega
theorem OH(es:List LeT):aO (ay es)<=4*szC (ay es):=by
 unfold ay;rw[d9 (cells:=LeT.cells) (s:=2) (fun _=>rfl) (by omega),aO];exact nM (fun x=>by simp[LeT.cells,bE,aO];omega) es
theorem NW(es:List aL):aO (aZ es)<=4*szC (aZ es):=by
 unfold aZ;rw[d9 (cells:=aL.cells) (s:=2) (fun _=>rfl) (by omega),aO];exact nM (fun x=>by simp[aL.cells,bE,aO];omega) es
theorem Mh(es:List Sq):aO (aY es)<=4*szC (aY es):=by
 unfold aY;rw[d9 (cells:=Sq.cells) (s:=3) (fun _=>rfl) (by omega),aO];exact nM (fun x=>by have:=mX x.ins;simp only[Sq.cells,bE,aO,dD,dG,gJ]at this ⊢;omega) es
theorem Mj(es:List Lt):aO (aj es)<=4*szC (aj es):=by
 unfold aj;rw[d9 (cells:=Lt.cells) (s:=2) (fun _=>rfl) (by omega),aO];exact nM (fun x=>by have:=mX x.ins;simp only[Lt.cells,bE,aO,dD,dG,gJ]at this ⊢;omega) es
theorem NY(es:List Blk):aO (aa es)<=4*szC (aa es):=by
 unfold aa;rw[d9 (cells:=Blk.cells) (s:=3) (fun _=>rfl) (by omega),aO];exact nM (fun x=>by have:=OH x.les;simp only[Blk.cells,bE,aO,dD,dG,gJ]at this ⊢;omega) es
theorem OI(es:List Cn):aO (bL es)<=4*szC (bL es):=by
 unfold bL;rw[d9 (cells:=Cn.cells) (s:=4) (fun _=>rfl) (by omega),aO];exact nM (fun x=>by have:=NW x.sinks;simp only[Cn.cells,bE,aO,dD,dG,gJ]at this ⊢;omega) es
theorem NZ(es:List Rou):aO (bM es)<=4*szC (bM es):=by
 unfold bM;rw[d9 (cells:=Rou.cells) (s:=2) (fun _=>rfl) (by omega),aO];exact nM (fun x=>by have:=mX x.nodes;have:=mX x.from_;simp only[Rou.cells,bE,dD,dG]at *;omega) es
theorem Na(x:Lay):aO (aY x.net.seqs)+aO (aj x.net.luts)+aO (aI x.net.outs)+aO (aa x.blocks)+aO (bL x.conns)+aO (aI x.place)+aO (bM x.routes)<=4*dI x.cells:=by
 have h0:dI x.cells=szC (aY x.net.seqs)+(szC (aj x.net.luts)+(szC (aI x.net.outs)+(szC (aa x.blocks)+(szC (bL x.conns)+(szC (aI x.place)+(szC (bM x.routes)+0)))))):=by
  unfold Lay.cells aU.cells;simp only[List.cons_append,List.nil_append,dD,dG,gJ];omega
 have:=Mh x.net.seqs;have:=Mj x.net.luts;have:=mX x.net.outs;have:=NY x.blocks;have:=OI x.conns;have:=mX x.place;have:=NZ x.routes
 omega
abbrev Og(x:Lay):List Cel:=[.int x.net.inputs,aY x.net.seqs,aj x.net.luts,aI x.net.outs,aa x.blocks,bL x.conns,aI x.place,bM x.routes]
theorem CW(N:Nat)(rs:List Rou)(RA:Oh)(rn rc:Nat)(w:World)(hR:RdC w w.heap.size (bM rs) (.slice RA rn rc))(hN:N<=828)(bq:rn<=100)(D:∀r∈rs,r.nodes.length<=828/\∀n∈r.nodes,0<=n/\n<(N:Int)) :
  Calls Tryz.prog 193 #[.int .i64 (N:Int),.slice RA rn rc] w fun e w'=>∃A,e=.returned (.slice A N N)/\Own w.heap.size w' A N N (gq N rs)/\Below w.heap.size w w':=by
 have aQ:Hv (rs.length=rn):=Hd<|hR.rouN
 obtain⟨HR,aU⟩:=hd2 hR D;clear hR D;obtain⟨i0,hi,av,aK,aA⟩:=info_parts iE;have ay:=fun W=>dQ (P:=Tryz.prog) 26 3 i0 _ Tryz.underlying26 hi av .i64 .i64 N N (Nat.le_refl _) (by rw[aA];omega) (by omega) W;rw[aK,Nat.mul_one,show(Value.int .i64 0).cells=#[Value.int .i64 0] from rfl,kM]at ay;clear hi av aK aA
 have aZ:=Hd (show aD w (w.alloc (.cells (arr (List.replicate N 0)) 3)) [.cel (aI (gq N (rs.take 0))) (.slice (some ⟨w.heap.size,0,none⟩) N N)] from by
  rw[List.take_zero,Gv]
  exact(aD.refl w).consOwn (aB (Below.refl _ _) (.cells (arr (List.replicate N 0)) 3)) (Own.arr (n:=N) (aG w _) (Nat.le_refl _) (by unfold maxLen;omega) (by simp)))
 go_enter Tryz.func193,Tryz.ntmps193;go_wp2_with fail;clear ay
 go_loopw[15] (fun i wr=>∃k:Nat,k<=rn/\i=.int .i64 (k:Int)/\aD w wr [.cel (aI (gq N (rs.take k))) (.slice (some ⟨w.heap.size,0,none⟩) N N)]) (fun i _=>rn-(intOf i).toNat)
 ·exact⟨0,by omega,rfl,aZ.1⟩
 obtain⟨k,hk,rfl,hs⟩:=hrel;have u:=Hd hs;clear hs;by_cases a4:k<rn
 ·have a1:=dT (by omega:k<rn);have G:k<rs.length:=by rw[aQ.1];exact a4
  obtain⟨br,ob,NA,B,nc,FA,fn,fc,aq,ah,e0,e1,ai,a0⟩:=HR.1.rou (k:=k) G;have a2:=Hd aq;have aX:=aJ u.1.bel ah;have c0:=(u.1.bel.cell (p:=⟨br,ob+k*2,none⟩) ah).trans e0;have c1:=(u.1.bel.cell (p:=⟨br,ob+k*2+1,none⟩) ah).trans e1;have ag:=aU.1 _ (List.getElem_mem G);rw[show rs[k]=rs[k]?.getD Rou.zero by rw[List.getElem?_eq_getElem G];rfl]at ag;have V:=Hd (bF (z:=Rou.zero) G);have H:=Hd (Gw N (rs.take k) (rs[k]?.getD Rou.zero));rw[←V.1]at H;clear G aq e0 e1 a0;obtain rfl:=a2.1;generalize rs[k]?.getD Rou.zero=rx at *;obtain⟨ns,fs⟩:=rx;simp only at H ai ag;have Z:=Hd ai.ints;obtain⟨bc,D⟩:=ag;rw[Z.1.1]at bc;have a6:=Hd D;obtain⟨i0,i1⟩:=ib (by omega:k<rn);have a9:Hv ((rs.take k).length<=100):=Hd<|by show _<=_;rw[List.length_take];omega
  generalize rs.take k=I at *;have aT:∀(t:TypeId) (w:World),(Instr.makeMap t none).run Tryz.prog w=.ok (.map (some w.heap.size)) (w.alloc (.map #[] 0)):=fun t w=>run_makeMap t w;have J:=(u.1.alloc (.cells #[.slice NA B nc,.slice FA fn fc] 114)).pushSet;obtain⟨y0,ly⟩:=yU (aG wr (.cells #[.slice NA B nc,.slice FA fn fc] 114));clear D ai;go_upto_region 6 with fail;obtain⟨gM,K⟩:∃g,(wr.alloc (.cells #[.slice NA B nc,.slice FA fn fc] 114)).heap.size=g:=⟨_,rfl⟩;simp only[World.size_alloc]at K J;rw[K]at J
  (try rw[K])
  have ae:Hv (aD w ((wr.alloc (.cells #[.slice NA B nc,.slice FA fn fc] 114)).alloc (.map #[] 0)) [.cel (aI (l7 N I (ns.take 0))) (.slice (some ⟨w.heap.size,0,none⟩) N N),wS gM []]):=Hd<|by
   show aD _ _ _;rw[List.take_zero,Gu];exact J
  obtain⟨y0,ly⟩:=yU (dP (.map #[] 0) (aG wr (.cells #[.slice NA B nc,.slice FA fn fc] 114)));clear K J aT c0 c1 aX u;generalize (wr.alloc (.cells #[.slice NA B nc,.slice FA fn fc] 114)).alloc (.map #[] 0)=W2 at *;go_wp2_with fail;clear y0 ly
  go_loopw[23] (fun i wr=>∃(j:Nat) (l:List Int),j<=B/\i=.int .i64 (j:Int)/\l.length<=j/\(∀z,z∈l↔z∈ns.take j)/\aD w wr [.cel (aI (l7 N I (ns.take j))) (.slice (some ⟨w.heap.size,0,none⟩) N N),wS gM l]) (fun i _=>B-(intOf i).toNat)
  ·exact⟨0,[],by omega,rfl,by simp,by simp,ae.1⟩
  obtain⟨j,l,hj,rfl,bv,aC,hs⟩:=hrel;obtain⟨u,Q⟩:=hd2 hs aC;clear hs aC;by_cases ad:j<B
  ·have a5:=dT (by omega:j<B);have R:j<ns.length:=by rw[Z.1.1];exact ad
   obtain⟨bn,a3,au,aE,az⟩:=Z.1.2 (by omega);have aY:=Hd au;have cq:=(u.1.bel.cell (p:=⟨bn,a3+j,none⟩) aE).trans (az j ad);have bu:=aJ u.1.bel aE;have hx:=a6.1 _ (List.getElem_mem R);rw[show ns[j]=ns[j]?.getD 0 by rw[List.getElem?_eq_getElem R];rfl]at hx;have Y:=Hd (bF (z:=0) R)
   have ar:Hv (0<=(l7 N I (ns.take j))[(ns[j]?.getD 0).toNat]?.getD 0/\(l7 N I (ns.take j))[(ns[j]?.getD 0).toNat]?.getD 0<=101):=Hd<|by
    have h1:=EH I (ns[j]?.getD 0).toNat;have h2:=a9.1;show _/\_;rw[AQ _ _ (by omega)]
    split <;> omega
   clear az R au;obtain rfl:=aY.1;generalize ns[j]?.getD 0=x at *;generalize ns.take j=tk at *;obtain⟨X,rfl⟩:∃X:Nat,x=(X:Int):=⟨_,(Int.toNat_of_nonneg hx.1).symm⟩;have aP:X<N:=by omega
   have ax:=u.1.look 1 rfl (key:=(X:Int)) (by unfold vw;omega);obtain⟨j0,j1⟩:=ib (by omega:j<B);clear hx;rw[Int.toNat_natCast]at ar;by_cases hm:(X:Int)∈tk
   ·have q:(X:Int)∈l:=(Q.1 _).2 hm;rw[decide_eq_true q]at ax;have bb:=Hd (CQ N I hm);have ae:Hv (aD w wr [.cel (aI (l7 N I (tk++[(X:Int)]))) (.slice (some ⟨w.heap.size,0,none⟩) N N),wS gM l]):=Hd<|by show aD _ _ _;rw[bb.1];exact u.1
    go_wp2_with fail;refine(aM (X:Int) 0 ((N:Int)-1) _).mono ?_;rw[aR.2 ⟨by omega,by omega⟩];rintro _ _ ⟨rfl,rfl⟩
    have aj:Hv (∀z,z∈l↔z∈tk++[(X:Int)]):=Hd<|fun z=>by
     have h1:=Q.1 z;simp only[h1,List.mem_append,List.mem_singleton]
     constructor
     ·exact fun h => .inl h
     rintro(h|h)
     ·exact h
     rw[h];exact hm
    clear hm q;go_wp2;go_roundw
    ·exact⟨j+1,l,by omega,by go_num,by omega,by rw[Y.1];exact aj.1,by rw[Y.1];exact ae.1⟩
    simp[intOf];omega
   have q:(X:Int)∉l:=fun h=>hm ((Q.1 _).1 h);rw[decide_eq_false q]at ax;have aL:=Hd (Gx I aP hm);go_wp2_with fail;refine(aM (X:Int) 0 ((N:Int)-1) _).mono ?_;rw[aR.2 ⟨by omega,by omega⟩];rintro _ _ ⟨rfl,rfl⟩;have aj:Hv (∀z,z∈l++[(X:Int)]↔z∈tk++[(X:Int)]):=Hd<|fun z=>by simp[Q.1 z]
   clear hm q
   go_upto_region 11 with(at_mapUpdate;refine BJ rfl _ _ _ rfl _ u.1 1 gM l rfl rfl (by omega) (X:Int) rfl rfl (by unfold vw;omega) ?_;intro w9 S9 bo;have aV:=Hd S9;clear S9)
   obtain⟨g9,aO,l9,bk,c9,f9,aF⟩:=aV.1.setI 0 rfl aP;obtain rfl:w.heap.size=g9:=by injection aO with h;injection h
   have af:=aF ((l7 N I tk)[X]?.getD 0+1);rw[aL.1]at af;have a8:=Hd af;have aW:=ar.1;generalize (l7 N I tk)[X]?.getD 0=v at *;obtain⟨bm,bt⟩:=aW;obtain⟨X0,X1⟩:=ib (by omega:X<N);clear af aF aO aL;go_wp2;go_roundw
   ·exact⟨j+1,l++[(X:Int)],by omega,by go_num,by simp;omega,by rw[Y.1];exact aj.1,by rw[Y.1];exact a8.1⟩
   simp[intOf];omega
  have aN:j=B:=by omega
  have a5:=dF (by omega:B<=j);have aH:Hv (ns.take j=ns):=Hd<|by show _=_;rw[aN];exact List.take_of_length_le (by rw[Z.1.1];exact Nat.le_refl _)
  have hs:=u.1;rw[aH.1,H.1]at hs;have U:=Hd (hs.sub (List.Sublist.cons_cons _ (List.Sublist.cons _ (List.nil_sublist _))));clear aN hs u aH;go_wp2;go_roundw
  ·exact⟨k+1,by omega,by go_num,U.1⟩
  simp[intOf];omega
 have aw:k=rn:=by omega
 have a1:=dF (by omega:rn<=k);have V:Hv (rs.take k=rs):=Hd<|by show _=_;rw[aw];exact List.take_of_length_le (by rw[aQ.1];exact Nat.le_refl _)
 have hs:=u.1;rw[V.1]at hs;have U:=Hd hs;clear aw hs u V;go_wp2;go_ret;exact⟨_,rfl,U.1.owned 0 rfl,U.1.bel⟩
abbrev qR(g n c:Nat)(vs:List Value):Pc := .own g fun w=>w.ownsRow 0 114 2 (.slice (some ⟨g,0,none⟩) n c) n vs
theorem CX(g n c:Nat)(vs:List Value)(j q:World)(e:q.heap[g]?=j.heap[g]?)(h:j.ownsRow 0 114 2 (.slice (some ⟨g,0,none⟩) n c) n vs):q.ownsRow 0 114 2 (.slice (some ⟨g,0,none⟩) n c) n vs :=
 fU h (by rintro a ⟨⟩;exact e)
theorem aD.pushVals0{W w:World}{g:List Pc}(h:aD W w g):aD W (w.alloc (.cells #[] 114)) (g++[qR w.heap.size 0 0 []]) :=
 h.push (aB (Below.refl _ _) _) (G:=[w.heap.size]) ⟨rfl,by simp,⟨rfl,.inr ⟨w.heap.size,0,#[],rfl,Nat.zero_le _,aG _ _,Nat.le_refl _,by unfold maxLen;omega,rfl,rfl⟩⟩,fun j q e h=>CX _ _ _ _ j q e h⟩ (by simp) (by simp)
section
variable {ops:Array Oper} {rest:List Oper} {o:Oper} {a:Act} {Q:Exit→Act→World→Prop} {K:Act→World→Prop} {E:Prop} {w W:World}
theorem JI(s x:Operand)(ho:o.op=.call { callee := .builtin .append,args:=#[s,x],argTypes:=#[44,44] })
  (H:List Pc) (S:aD W w H) (i:Nat) (g n c m d:Nat) (B:Oh) (vs q:List Value) (hi:H[i]?=some (qR g n c vs)) (hs:a.eval s=.slice (some ⟨g,0,none⟩) n c) (hx:a.eval x=.slice B m d)
  (hr:0<m→∃b f,B=some ⟨b,f,none⟩/\∀j u,q[j]?=some u→w.cell? ⟨b,f+j,none⟩=some u) (h1:∀u∈q,u.oneCell'=true) (hl:q.length=m*2) (hn:n+m<=1099511627776)
  (h:∀g cap w',aD W w' (H.set i (qR g (n+m) cap (vs++q)))→K (a.put o.dst (.slice (some ⟨g,0,none⟩) (n+m) cap)) w'):Oper.wp Tryz.prog o a w K Q:=by
 obtain⟨F,k1,k2,_,k4⟩:=S.part i hi;obtain⟨rfl,kl,V,_⟩:=k1;obtain⟨ti,D,I,J,U⟩:=info_parts FU
 rcases Nat.eq_zero_or_pos m with rfl|hm
 ·have hnn:q=[]:=List.eq_nil_of_length_eq_zero (by rw[hl]);subst hnn;have h2:=h g c w (by rw[Nat.add_zero,List.append_nil];exact S.same i (p':=qR g n c vs) hi fun _ h=>h);rw[Nat.add_zero]at h2;have G:=sK (P:=Tryz.prog) w 0 44 o.type 114 ti 2 Tryz.underlying44 D _ n vs V B d;unfold Oper.wp execOp;simp only[ho,resolve,invoke,builtin,Sem.run_bind,Sem.run_pure,Result.andThen_ok,List.map_toArray,List.map_cons,List.map_nil,hs,hx,G];exact h2
 obtain⟨b,f,rfl,R⟩:=hr hm;refine wp_append_lies w s x 44 ho 0 114 ti _ 2 48 Tryz.underlying44 D I J U rfl (by decide) (.slice (some ⟨g,0,none⟩) n c) n vs hs V ⟨b,f,none⟩ m d q hx hl (fun j u hu=>by rw[Addr.add_lit];exact R j u hu) h1 hm (by unfold maxLen;omega) (by omega) (Nat.zero_le _) _ rfl fun Y cap w' g1 z Z g4=>?_;rw[fu]at z Z;refine h Y cap w' (k4 w' _ [Y] ⟨rfl,g4,g1,fun w1 w2 e h=>CX _ _ _ _ w1 w2 e h⟩ (by simp) (fun k hk=>?_) ⟨z.os,z.tape,z.output,z.size,fun k hk hn=>z.block k hk ?_⟩)
 ·obtain rfl:=List.mem_singleton.1 hk
  rcases Z with hg|hg
  ·simp at hg;exact .inl (by simp[hg])
  exact .inr (by omega)
 simp only[Option.map_some,ne_eq,Option.some.injEq];rintro rfl;exact hn (by simp)
theorem nu(D:o.guard=none)(s x:Operand)(ho:o.op=.call { callee := .builtin .append,args:=#[s,x],argTypes:=#[44,44] })
  (z:List Pc) (S:aD W w z) (i:Nat) (g n c m d:Nat) (B:Oh) (vs q:List Value) (hi:z[i]?=some (qR g n c vs)) (hs:a.eval s=.slice (some ⟨g,0,none⟩) n c) (hx:a.eval x=.slice B m d)
  (hr:0<m→∃b f,B=some ⟨b,f,none⟩/\∀j u,q[j]?=some u→w.cell? ⟨b,f+j,none⟩=some u) (h1:∀u∈q,u.oneCell'=true) (hl:q.length=m*2) (hn:n+m<=1099511627776)
  (h:∀g cap w',aD W w' (z.set i (qR g (n+m) cap (vs++q)))→K (a.put o.dst (.slice (some ⟨g,0,none⟩) (n+m) cap)) w'):if Region.wanted o (yielded ops a.tmps)=true then Oper.wp Tryz.prog o a w K Q else E:=by
 have G:Region.wanted o (yielded ops a.tmps)=true:=by simp[Region.wanted,D]
 rw[if_pos G];exact JI s x ho z S i g n c m d B vs q hi hs hx hr h1 hl hn h
end
theorem G7{w:World}{B:Nat}:∀{cs:List Cel} {vs:List Value} (k:Nat),RdL w B cs vs→RdL w B (cs.take k) (vs.take k)
 | _,_,0,_=>by rw[List.take_zero,List.take_zero,jG]
 | [],vs,k+1,h=>by rw[jG]at h;subst h;rw[List.take_nil,List.take_nil,jG]
 | c::cs,vs,k+1,h=>by
  rw[gU]at h;obtain⟨v,g,rfl,h1,h2⟩:=h;rw[List.take_succ_cons,List.take_succ_cons,gU];exact⟨v,_,rfl,h1,G7 k h2⟩
theorem G8{w:World}{B:Nat}:∀{cs:List Cel} {vs:List Value} (k:Nat),RdL w B cs vs→RdL w B (cs.drop k) (vs.drop k)
 | _,_,0,h=>h
 | [],vs,k+1,h=>by rw[jG]at h;subst h;rw[List.drop_nil,List.drop_nil,jG]
 | c::cs,vs,k+1,h=>by
  rw[gU]at h;obtain⟨v,g,rfl,h1,h2⟩:=h;rw[List.drop_succ_cons,List.drop_succ_cons];exact G8 k h2
theorem AX{α:Type}{f:α→List Cel}(hf:∀x,(f x).length=2):∀(xs:List α) (k:Nat),(xs.take k).flatMap f=(xs.flatMap f).take (k*2)
 | [],k=>by simp
 | x::xs,0=>by simp
 | x::xs,k+1=>by
  rw[List.take_succ_cons,List.flatMap_cons,List.flatMap_cons,AX hf xs k,List.take_append,hf,show(k+1)*2-2=k*2 by omega,List.take_of_length_le (l:=f x) (by rw[hf];omega)]
theorem AY{α:Type}{f:α→List Cel}(hf:∀x,(f x).length=2):∀(xs:List α) (k:Nat),(xs.drop k).flatMap f=(xs.flatMap f).drop (k*2)
 | [],k=>by simp
 | x::xs,0=>by simp
 | x::xs,k+1=>by
  rw[List.drop_succ_cons,List.flatMap_cons,AY hf xs k,List.drop_append,hf,show(k+1)*2-2=k*2 by omega,show(f x).drop ((k+1)*2)=[] from List.drop_eq_nil_of_le (by rw[hf];omega),List.nil_append]
theorem Ke(rs:List Rou)(k:Nat):(skp rs k).flatMap Rou.cells=(rs.flatMap Rou.cells).take (k*2)++(rs.flatMap Rou.cells).drop ((k+1)*2):=by
 unfold skp;rw[List.flatMap_append,AX Rou.cells_length,AY Rou.cells_length]
theorem aD.rdOthers{W w:World}{z:List Pc}(h:aD W w z)(i j:Nat){g n c k:Nat}{rs:List Rou}{vs:Array Value}(hi:z[i]?=some (.cels (rs.flatMap Rou.cells) vs.toList))(hj:z[j]?=some (qR g n c (vs.toList.take (k*2)++vs.toList.drop ((k+1)*2))))(hk:k<rs.length)(hn:n+1=rs.length) :
  RdC w w.heap.size (bM (skp rs k)) (.slice (some ⟨g,0,none⟩) n c):=by
 obtain⟨D,k1,_⟩:=h.part i hi;obtain⟨H,k2,_⟩:=h.part j hj;have q:dh w (rs.flatMap Rou.cells) vs.toList D:=k1;obtain⟨rfl,hl,k3,_⟩:=k2;unfold bM;rw[kQ];refine⟨_,n,c,rfl,?_,.inr ⟨g,0,vs.toList.take (k*2)++vs.toList.drop ((k+1)*2),rfl,hl,fun j u B=>?_,?_⟩⟩
 ·rw[kF];unfold skp;rw[List.length_append,List.length_take,List.length_drop];omega
 ·rw[Nat.zero_add];obtain⟨G,cur,hA,_,_,_,_,_,_,hc,_⟩:=lN k3 B;injection hA with hA
  injection hA with hA
  subst hA;exact hc
 rw[Ke];exact yY (G7 _ q.rd) (G8 _ q.rd)
theorem Mo(d:Dev)(place:List Int)(N a b:Int)(ss:List aL)(PA SA:Oh)(pn pc m j:Nat)(w:World)(hp:bT w PA pn place)(hs:RdC w w.heap.size (aZ ss) (.slice SA m j))(g:pn<=1048576)(hm:m<=1048576)(q:eZ d place ⟨N,⟨a,b⟩,ss⟩) :
  Calls Tryz.prog 131 #[.agg (dv d),.slice PA pn pc,.agg #[.int .i64 N,.int .i64 a,.int .i64 b,.slice SA m j]] w fun e w'=>∃A c,e=.returned (.slice A m c)/\Own w.heap.size w' A m c (eD d place ⟨N,⟨a,b⟩,ss⟩)/\Below w.heap.size w w' :=
 (uX d place N a b ss PA SA pn pc m j w hp hs g hm).mono fun e w' ⟨h,hb⟩=>by
  rcases h with⟨h1,A,c,h2,h3⟩|⟨h1,_⟩
  ·exact⟨A,c,h2,h3,hb⟩
  exact absurd q h1
theorem Nb(d:Dev)(place:List Int)(N a b:Int)(ss:List aL)(PA SA:Oh)(pn pc m j:Nat)(w:World)(hp:bT w PA pn place)(hs:RdC w w.heap.size (aZ ss) (.slice SA m j))(g:pn<=1048576)(hm:m<=1048576)(q:¬eZ d place ⟨N,⟨a,b⟩,ss⟩) :
  Calls Tryz.prog 131 #[.agg (dv d),.slice PA pn pc,.agg #[.int .i64 N,.int .i64 a,.int .i64 b,.slice SA m j]] w fun e w'=>e=.returned (.slice none 0 0)/\Below w.heap.size w w' :=
 (uX d place N a b ss PA SA pn pc m j w hp hs g hm).mono fun e w' ⟨h,hb⟩=>by
  rcases h with⟨h1,_⟩|⟨_,h2⟩
  ·exact absurd h1 q
  exact⟨h2,hb⟩
theorem BL(N:Nat)(G K:List (List Int))(C ks:List Int)(g:Nat)(u:Nat)(CA SA:Oh)(cc sn sc:Nat)(w:World)(J:wI w u N G K)(H:bT w CA N C)(R:bT w SA sn ks)(hg:jW N G C [])(Q:0<N)(hr:∀x:Nat,(G[x]?.getD []).length<=26)(j:sn<=1048576)(z:g<N)(q:∀s∈ks,0<=s/\s<(N:Int))(I:KOk N G K) :
  Calls Tryz.prog 191 #[.pointer (some ⟨u,0,none⟩),.slice CA N cc,.int .i64 (g:Int),.slice SA sn sc] w fun e w'=>∃ok A n c B e',e=.returned (.tuple #[.agg #[.slice A n c,.slice B n e'],.bool ok])/\(ok=false/\growF G C (g:Int) ks=none∨ok=true/\∃r,growF G C (g:Int) ks=some r/\pu N r/\aD w w' [.cel (aI r.nodes) (.slice A n c),.cel (aI r.from_) (.slice B n e')])/\Below w.heap.size w w' :=
 (Al N G K C ks g u CA SA cc sn sc w J H R hg Q hr j z q I).mono fun e w' h=>by
  rcases h with⟨h1,h2,h3⟩|⟨r,A,n,c,B,e',h1,h2,h3,D⟩
  ·exact⟨false,none,0,0,none,0,h2,.inl ⟨rfl,h1⟩,h3.bel⟩
  exact⟨true,A,n,c,B,e',h3,.inr ⟨rfl,r,h1,h2,D⟩,D.bel⟩
theorem aD.toCels{W w:World}{g:List Pc}(h:aD W w g)(j:Nat){c:Cel}{v:Value}(hj:g[j]?=some (.cel c v)):aD W w (g.set j (.cels [c] [v])) :=
 h.same j (p' := .cels [c] [v]) hj fun F h=>show dh w [c] [v] F from bU.2 ⟨v,[],F,[],rfl,(List.append_nil F).symm,h,dH.2 ⟨rfl,rfl⟩⟩
theorem G9{α:Type}{xs:List α}{k j:Nat}{u:α}(h:(xs.take k)[j]?=some u):xs[j]?=some u:=by
 rw[List.getElem?_take]at h
 split at h
 ·exact h
 cases h
def yI(d:Dev)(place:List Int)(cs:List Cn)(k:Nat):List Int:=(List.range k).map (sW d place cs)
def uq(d:Dev)(place:List Int)(cs:List Cn)(k:Nat):List (List Int):=(List.range k).map (vD d place cs)
theorem JK(d:Dev)(place:List Int)(cs:List Cn)(k:Nat):yI d place cs (k+1)=yI d place cs k++[dN d place (cs[k]?.getD Cn.zero)]:=by unfold yI;rw[List.range_succ,List.map_append];rfl
theorem JL(d:Dev)(place:List Int)(cs:List Cn)(k:Nat):uq d place cs (k+1)=uq d place cs k++[eD d place (cs[k]?.getD Cn.zero)]:=by unfold uq;rw[List.range_succ,List.map_append];rfl
theorem Kg(d:Dev)(place:List Int)(cs:List Cn){k n:Nat}(h:k<n):(yI d place cs n)[k]?.getD 0=dN d place (cs[k]?.getD Cn.zero):=by unfold yI;rw[List.getElem?_map,List.getElem?_range h];rfl
theorem Kh(d:Dev)(place:List Int)(cs:List Cn){k n:Nat}(h:k<n):(uq d place cs n)[k]?.getD []=eD d place (cs[k]?.getD Cn.zero):=by unfold uq;rw[List.getElem?_map,List.getElem?_range h];rfl
theorem EO(d:Dev)(place:List Int)(cs:List Cn)(PA CA:Oh)(pn pc cn cc:Nat)(w:World)(hp:bT w PA pn place)(hC:RdC w w.heap.size (bL cs) (.slice CA cn cc))(cm:pn<=1048576)(cD:∀c∈cs,c.sinks.length<=1048576) :
  Calls Tryz.prog 97 #[.agg (dv d),.slice PA pn pc,.slice CA cn cc] w fun e w'=>(∃rs A c,routeF d place cs=(rs,true)/\e=.returned (.tuple #[.slice A cn c,.bool true])/\aD w w' [.cel (bM rs) (.slice A cn c)])∨(routeF d place cs=([],false)/\∃A c,e=.returned (.tuple #[.slice A 0 c,.bool false])/\aD w w' []):=by
 have dJ:=Hd (aB (Below.refl w.heap.size w) (.cells (dv d) 36));have dA:=Hd (aG w (.cells (dv d) 36));have HP:=Hd hp;have dz:Hv (place.length=pn):=Hd<|hp.1
 have HC:=Hd hC;have aM:Hv (cs.length=cn):=Hd<|hC.cnN
 have eL:=Hd cD;clear hp hC cD;go_enter Tryz.func97,Tryz.ntmps97;go_upto_region 1 with fail;generalize w.alloc (.cells (dv d) 36)=W9 at *;obtain⟨x0,x1,x2,x3,lx⟩:=bA (dA.1);go_wp2_with fail;refine(eG d _).mono ?_
 cases hd:bQ d
 case false =>
  rintro _ wd ⟨rfl,be⟩;have Q:Hv (routeF d place cs=([],false)):=Hd<|jr (fun h=>by have:=h.1;rw[hd]at this;cases this)
  have J:=Hd (aA dJ.1 be);clear x0 x1 x2 x3 lx hd;go_wp2
  go_ret2
  first|exact .inr ⟨Q.1,⟨_,_,rfl,aD.nil J.1⟩⟩|exact .inr ⟨Q.1,⟨_,_,rfl⟩,aD.nil J.1⟩
 rintro _ wd ⟨rfl,be⟩;have HD:=Hd hd;have bj:=Hd (aA dJ.1 be);have dC:=Hd (aF be dA.1);clear be x0 x1 x2 x3 lx hd;go_wp2_with fail;refine(qD (pn:Int) cs CA cn cc _ (HC.1.below bj.1) eL.1).mono ?_;by_cases aL:dW (pn:Int) cs
 case neg =>
  rw[dU aL];rintro _ w1 ⟨rfl,b1⟩;have Q:Hv (routeF d place cs=([],false)):=Hd<|jr (fun h=>aL (by have:=h.2.1;rw[dz.1]at this;exact this))
  have J:=Hd (aA bj.1 b1);go_wp2
  go_ret2
  first|exact .inr ⟨Q.1,⟨_,_,rfl,aD.nil J.1⟩⟩|exact .inr ⟨Q.1,⟨_,_,rfl⟩,aD.nil J.1⟩
 rw[bZ aL];rintro _ w1 ⟨rfl,b1⟩;have ar:=Hd (aF b1 dC.1);have ai:=Hd (aA bj.1 b1);have bW:Hv (dW (place.length:Int) cs):=Hd<|by show dW _ _;rw[dz.1];exact aL
 have cW:cn<=100:=by have:=aL.len;rw[aM.1]at this;exact this
 clear b1 aL bj dC;obtain⟨W1,rfl⟩:∃x,x=w1:=⟨w1,rfl⟩;have dP:=Hd (((aD.refl W1).pushNil 3 1).pushNil 26 1);obtain⟨ep,c6,bH,bJ,bK⟩:=info_parts qm;have bC:=Hd (And.intro c6 (And.intro bH (And.intro bJ bK)));clear c6 bH bJ bK;go_wp2
 go_loopw[8,9,37] (fun sv kv iv wr=>∃(k:Nat) (A:Oh) (c:Nat) (B:Oh) (e:Nat),k<=cn/\sv=.slice A k c/\kv=.slice B k e/\iv=.int .i64 (k:Int)/\aD W1 wr [.cel (aI (yI d place cs k)) (.slice A k c),.cel (mG (uq d place cs k)) (.slice B k e)]/\(∀j,j<k→0<=dN d place (cs[j]?.getD Cn.zero)/\eZ d place (cs[j]?.getD Cn.zero))) (fun _ _ iv _=>cn-(intOf iv).toNat)
 ·exact⟨0,_,_,_,_,by omega,rfl,rfl,rfl,dP.1,fun j hj=>by omega⟩
 obtain⟨k,A,c,B,e,hk,rfl,rfl,rfl,hs,bU⟩:=hrel;obtain⟨aW,Y⟩:=hd2 bU hs;have ad:=Hd (aA ai.1 Y.1.bel);clear bU hs;by_cases R:k<cn
 ·have ci:=dT (by omega:k<cn);have cR:=Hd (JK d place cs k);have cK:=Hd (JL d place cs k);have ah:k<cs.length:=by rw[aM.1];exact R
  obtain⟨bc,oc,SA,m,mc,ds,a4,c0,c1,c2,c3,cy⟩:=HC.1.cn (k:=k) ah;have ey:=Hd ds;have eN:=aJ ad.1 a4;rw[←ad.1.cell (p:=⟨bc,oc+k*4,none⟩) a4]at c0;rw[←ad.1.cell (p:=⟨bc,oc+k*4+1,none⟩) a4]at c1;rw[←ad.1.cell (p:=⟨bc,oc+k*4+2,none⟩) a4]at c2;rw[←ad.1.cell (p:=⟨bc,oc+k*4+3,none⟩) a4]at c3;have ao:nD (place.length:Int) (cs[k]?.getD Cn.zero):=by rw[List.getElem?_eq_getElem ah];exact bW.1.fit _ (List.getElem_mem ah)
  have HG:Hv (0<=dN d place (cs[k]?.getD Cn.zero)/\eZ d place (cs[k]?.getD Cn.zero)→∀j,j<k+1→0<=dN d place (cs[j]?.getD Cn.zero)/\eZ d place (cs[j]?.getD Cn.zero)):=Hd<|fun h=>fQ aW.1 h
  have bm:Hv (qC d place cs→0<=dN d place (cs[k]?.getD Cn.zero)/\eZ d place (cs[k]?.getD Cn.zero)):=Hd<|fun h=>h.at_ ah
  clear ah ds;obtain rfl:=ey.1;generalize cs[k]?.getD Cn.zero=cx at *;obtain⟨N,⟨a,b⟩,ss⟩:=cx;simp only at c0 c1 c2 c3 cy;have b8:=Hd (show RdC w w.heap.size (aZ ss) (.slice SA m mc) from cy);have dZ:Hv (ss.length=m):=Hd<|b8.1.pinN
  have fl:1<=m/\m<=120:=by have h1:=ao.len;rw[show(⟨N,⟨a,b⟩,ss⟩:Cn).sinks=ss from rfl,dZ.1]at h1;exact h1
  have hm:m<=1048576:=by omega
  obtain⟨k0,k1⟩:=ib (by omega:k<cn);clear cy ao;have a0:=Hd (Y.1.pushBlk #[.int .i64 N,.int .i64 a,.int .i64 b,.slice SA m mc] 158);go_upto_region 8 with fail;clear c0 c1 c2 c3 eN;obtain⟨gC,cw⟩:∃g,wr.heap.size=g:=⟨_,rfl⟩;rw[cw]at a0
  (try rw[cw])
  clear cw;generalize wr.alloc (.cells #[.int .i64 N,.int .i64 a,.int .i64 b,.slice SA m mc] 158)=W7 at *;have I:Hv (∀(w':World) (p0 p1:Pc) (ps:List Pc),aD W1 w' (p0::p1::.blk gC #[.int .i64 N,.int .i64 a,.int .i64 b,.slice SA m mc] 158::ps)→(KD w' w.heap.size d (K4e w' gC (.int .i64 N) (.int .i64 a) (.int .i64 b) (.slice SA m mc)))):=Hd<|fun v p0 p1 ps h=>⟨aC (k:=0) (aF h.bel ar.1) rfl,aC (k:=1) (aF h.bel ar.1) rfl,aC (k:=2) (aF h.bel ar.1) rfl,aC (k:=3) (aF h.bel ar.1) rfl,aC (k:=0) (h.blk 2 rfl).1 rfl,aC (k:=1) (h.blk 2 rfl).1 rfl,aC (k:=2) (h.blk 2 rfl).1 rfl,aC (k:=3) (h.blk 2 rfl).1 rfl⟩
  obtain⟨x0,x1,x2,x3,y0,y1,y2,y3⟩:=I.1 _ _ _ _ a0.1;have lx:=aH (aF a0.1.bel ar.1);have ly:=aH (a0.1.blk 2 rfl).1;have cH:=Hd (fun(v:World) (hv:Below W1.heap.size W1 v)=>yx d place N a b ss PA SA pn pc m mc v (HP.1.below (aA ai.1 hv)) cm);have z:=Hd a0.1.drew;by_cases aS:eZ d place ⟨N,⟨a,b⟩,ss⟩
  case neg =>
   have cl:=Hd (fun(v:World) (hv:Below W1.heap.size W1 v)=>Nb d place N a b ss PA SA pn pc m mc v (HP.1.below (aA ai.1 hv)) (b8.1.below (aA ai.1 hv)) cm hm aS);have Q:Hv (routeF d place cs=([],false)):=Hd<|jr (fun h=>aS (bm.1 h.2.2).2)
   clear aS;generalize dN d place ⟨N,⟨a,b⟩,ss⟩=sv at *
   go_cut[12,13] (fun av bv w'=>av=.int .i64 sv/\bv=.slice none 0 0/\Below W1.heap.size W1 w')
   case first =>
    go_region_held3 (fun w'=>KD w' w.heap.size d (K4e w' gC (.int .i64 N) (.int .i64 a) (.int .i64 b) (.slice SA m mc)))
     (first|exact I.1 _ _ _ _ z.1)
     ((first
      | (go_at_call 133;(with_reducible refine(cH.1 _ z.1.bel).mono ?_);rintro _ w5 ⟨rfl,b5⟩;replace z:=Hd (z.1.below b5);clear b5)
      | (go_at_call 131;(with_reducible refine(cl.1 _ z.1.bel).mono ?_);rintro _ w6 ⟨rfl,b5⟩;replace z:=Hd (z.1.below b5);clear b5)))
    all_goals
     go_wp2;go_meet;exact⟨rfl,rfl,z.1.bel⟩
   obtain⟨rfl,rfl,cY⟩:=hcut;have J:=Hd (aA ai.1 cY);have bN:=fun W=>Lib.run_eql_slice_nil W 26 3 none 0 0 0 0 Tryz.underlying26;clear x0 x1 x2 x3 lx y0 y1 y2 y3 ly z cY;by_cases cZ:sv<0
   ·have aX:decide (sv<0)=true:=by simp;omega
    go_wp2
    go_ret2
    first|exact .inr ⟨Q.1,⟨_,_,rfl,aD.nil J.1⟩⟩|exact .inr ⟨Q.1,⟨_,_,rfl⟩,aD.nil J.1⟩
   have aX:decide (sv<0)=false:=by simp;omega
   go_wp2
   go_ret2
   first|exact .inr ⟨Q.1,⟨_,_,rfl,aD.nil J.1⟩⟩|exact .inr ⟨Q.1,⟨_,_,rfl⟩,aD.nil J.1⟩
  have cl:=Hd (fun(v:World) (hv:Below W1.heap.size W1 v)=>Mo d place N a b ss PA SA pn pc m mc v (HP.1.below (aA ai.1 hv)) (b8.1.below (aA ai.1 hv)) cm hm aS);have ef:=Hd aS;clear aS;generalize dN d place ⟨N,⟨a,b⟩,ss⟩=sv at *;generalize eD d place ⟨N,⟨a,b⟩,ss⟩=kv at *
  go_cut[12,13] (fun av bv w'=>∃A5 c5,av=.int .i64 sv/\bv=.slice A5 m c5/\aD W1 w' [.cel (aI (yI d place cs k)) (.slice A k c),.cel (mG (uq d place cs k)) (.slice B k e),.blk gC #[.int .i64 N,.int .i64 a,.int .i64 b,.slice SA m mc] 158,.cel (aI kv) (.slice A5 m c5)])
  case first =>
   go_region_held3 (fun w'=>KD w' w.heap.size d (K4e w' gC (.int .i64 N) (.int .i64 a) (.int .i64 b) (.slice SA m mc)))
    (first|exact I.1 _ _ _ _ z.1)
    ((first
     | (go_at_call 133;(with_reducible refine(cH.1 _ z.1.bel).mono ?_);rintro _ w5 ⟨rfl,b5⟩;replace z:=Hd (z.1.below b5);clear b5)
     | (go_at_call 131;(with_reducible refine(cl.1 _ z.1.bel).mono ?_);rintro e5 w6 ⟨A5,c5,rfl,o5,b5⟩;replace z:=Hd (z.1.pushOwn b5 o5);clear b5 o5)))
   all_goals
    go_wp2;go_meet;exact⟨_,_,rfl,rfl,z.1⟩
  obtain⟨A5,c5,rfl,rfl,bp⟩:=hcut;have ed:=Hd bp;have cA:=bp.ints 3 rfl
  have hA:A5.isNone=false:=by
   cases A5 with
   | some _=>rfl
   | none =>
    obtain⟨_,_,h3,_⟩:=cA.2 (by omega)
    cases h3
  have bN:=fun W=>Lib.run_eql_slice_nil W 26 3 A5 m c5 0 0 Tryz.underlying26;rw[hA]at bN;have J:=Hd (aA ai.1 bp.bel);clear x0 x1 x2 x3 lx y0 y1 y2 y3 ly z bp cA hA;by_cases cZ:sv<0
  ·have aX:decide (sv<0)=true:=by simp;omega
   have Q:Hv (routeF d place cs=([],false)):=Hd<|jr (fun h=>by have:=(bm.1 h.2.2).1;omega)
   go_wp2
   go_ret2
   first|exact .inr ⟨Q.1,⟨_,_,rfl,aD.nil J.1⟩⟩|exact .inr ⟨Q.1,⟨_,_,rfl⟩,aD.nil J.1⟩
  have aX:decide (sv<0)=false:=by simp;omega
  have ez:=Hd (HG.1 ⟨by omega,ef.1⟩)
  go_upto_region 12 with(at_builtin;refine bP rfl _ _ rfl _ (ed.1.alloc _) 0 A k c (yI d place cs k) sv _ (0,0) rfl rfl rfl (aG _ _) (by omega) ?_;intro g8 az w8 S8 ex;have aQ:=Hd (S8.toCels 3 rfl);clear S8 ex)
  go_wp2_with (at_builtin;refine af rfl _ _ 50 26 rfl ep _ 1 24 Tryz.underlying50 bC.1.1 bC.1.2.1 bC.1.2.2.1 bC.1.2.2.2 rfl (by decide) (by decide) _ (aQ.1.alloc (.cells #[.slice A5 m c5] 26)) 1 3 (by decide) k e _ B ((uq d place cs k).map aI) _ #[.slice A5 m c5] _ rfl rfl rfl rfl (aG _ _) rfl (by omega) ?_;intro g9 bG w9 S9 eF;have Z:=Hd (S9.sub (List.sublist_append_left [_,_] [_,_]));clear S9 eF)
  go_roundw
  ·exact⟨k+1,_,_,_,_,by omega,rfl,rfl,by go_num,by rw[cR.1,cK.1,uO];exact Z.1,ez.1⟩
  simp[intOf];omega
 have bg:cn=k:=by omega
 subst bg;have ci:decide ((cn:Int)<(cn:Int))=false:=by simp
 have hs:=Y.1;have HW:Hv (qC d place cs):=Hd<|qC.all (fun j hj=>aW.1 j (by rw[aM.1]at hj;omega))
 have cj:Hv (routeF d place cs=_):=Hd<|vE HD.1 bW.1 HW.1
 have bX:=Hd (aF Y.1.bel ar.1);have bb:=cj.1;rw[aM.1]at bb;obtain⟨bh,da,eK⟩:=zk HD.1;have cd:=Hd (fun(v:World)=>FP d v HD.1);have ae:=Hd (fun(v:World)=>jb d v HD.1);have aY:=Hd (DV HD.1)
 have ce:Hv (∀k:Nat,k<cn→(0<=sW d place cs k/\sW d place cs k<(nN d:Int))/\∀s∈vD d place cs k,0<=s/\s<(nN d:Int)):=Hd<|fun k hk=>by
  have h:=HW.1.at_ (k:=k) (by rw[aM.1];exact hk);refine⟨⟨h.1,?_⟩,?_⟩
  ·rw[←bh];exact vF h.1
  rw[←bh];exact rH h.2
 rw[bh]at ae;obtain⟨D,cT⟩:∃x,nN d=x:=⟨_,rfl⟩;obtain⟨G,dg⟩:∃x,grG d=x:=⟨_,rfl⟩;rw[cT]at bb da eK cd aY ce ae;rw[dg]at bb cd aY;have cj:=Hd bb;have ca:=hs;have a5:=Hd hs;clear bb bh cT dg hs ca;obtain⟨ec,hi,cC,cL,dk⟩:=info_parts iE;have dx:=fun W=>dQ (P:=Tryz.prog) 26 3 ec _ Tryz.underlying26 hi cC .i64 .i64 D D (Nat.le_refl _) (by rw[dk];omega) (by omega) W;rw[cL,Nat.mul_one,show(Value.int .i64 0).cells=#[Value.int .i64 0] from rfl,kM]at dx;clear hi cC cL dk;have dO:=fun W=>ui cn (by omega) W;obtain⟨x0,x1,x2,x3,lx⟩:=bA (bX.1);go_wp2_with fail;refine(cd.1 _).mono ?_;rintro _ w2 ⟨gG,K,rfl,hK,hG,b2⟩;obtain⟨d8,eb⟩:=hd2 hK hG;have aK:=Hd (aA ad.1 b2);have cU:=Hd ((a5.1.ints 0 rfl).below b2);have dn:=Hd ((a5.1.rd 1 rfl).below b2);have es:=Hd (aF b2 bX.1);clear x0 x1 x2 x3 lx hK hG b2 Y a5 ad bX ai ar aW;obtain⟨W2,rfl⟩:∃x,x=w2:=⟨w2,rfl⟩;obtain⟨x0,x1,x2,x3,lx⟩:=bA (es.1);go_wp2_with fail;refine(ae.1 _).mono ?_;rintro _ w3 ⟨rfl,b3⟩;have aE:=Hd ((((aD.nil b3).pushOwn (aB (Below.refl _ _) (.cells (arr (List.replicate D 0)) 3)) (Own.arr (n:=D) (aG w3 _) (Nat.le_refl _) (by unfold maxLen;omega) (by simp))).pushRous cn).perm (List.perm_append_comm (l₁:=[_]) (l₂:=[_,_])));clear b3 x0 x1 x2 x3 lx;go_wp2_with fail;clear dx dO;rw[show(w3.alloc (.cells (arr (List.replicate D 0)) 3)).heap.size=w3.heap.size+1 from Array.size_push _]at aE;obtain⟨gH,co⟩:∃g,w3.heap.size=g:=⟨_,rfl⟩;rw[co]at aE
 (try rw[co])
 clear co;obtain⟨gR,cg⟩:∃g,gH+1=g:=⟨_,rfl⟩;rw[cg]at aE
 (try rw[cg])
 clear cg
 go_loopw[17] (fun tv wr=>∃(t:Nat) (rs:List Rou) (vs:Array Value) (H:List Int),1<=t/\t<=13/\tv=.int .i64 (t:Int)/\aD W2 wr [.blk gR vs 114,.cels ((rs).flatMap Rou.cells) (vs).toList,.cel (aI H) (.slice (some ⟨gH,0,none⟩) D D)]/\sN D cn rs/\vU D H t/\routeF d place cs=rtGo D G (sW d place cs) (vD d place cs) cn (13-t) t rs H) (fun tv _=>13-(intOf tv).toNat)
 ·exact⟨1,_,_,_,by omega,by omega,rfl,aE.1,sN.start D cn,vU.start D,cj.1⟩
 obtain⟨t,rs,vs,H,fB,fD,rfl,hs,ag,bV,dl⟩:=hrel;obtain⟨Y,am,bf,aO⟩:=hd4 hs ag bV dl;have ad:=Hd (aA aK.1 hs.bel);clear hs ag bV dl;by_cases R:t<=12
 ·have d9:decide ((t:Int)<=12)=true:=by simp;omega
  have aO:Hv (routeF d place cs=rtGo D G (sW d place cs) (vD d place cs) cn (12-t+1) t rs H):=Hd<|by have h:=aO.1;rw[show 13-t=12-t+1 by omega]at h;exact h
  go_wp2
  go_loopw[78] (fun kv wr=>∃(k:Nat) (V:List Rou) (vs:Array Value),k<=cn/\kv=.int .i64 (k:Int)/\rtIn D G (sW d place cs) (vD d place cs) H t rs k=some V/\sN D cn V/\aD W2 wr [.blk gR vs 114,.cels ((V).flatMap Rou.cells) (vs).toList,.cel (aI H) (.slice (some ⟨gH,0,none⟩) D D)]) (fun kv _=>cn-(intOf kv).toNat)
  ·exact⟨0,rs,vs,by omega,rfl,rfl,am.1,Y.1⟩
  obtain⟨k,V,vs,hk,rfl,aq,ag,hs⟩:=hrel;obtain⟨Y,br,am⟩:=hd3 hs aq ag;have ad:=Hd (aA aK.1 hs.bel);have aj:Hv (V.length=cn):=Hd<|ag.len
  clear hs aq ag;by_cases R:k<cn
  ·have ci:=dT (by omega:k<cn);have ah:k<cs.length:=by rw[aM.1];exact R
   have eM:Hv (∀r,growF G (shc H (gq D (skp V k)) (5*(t:Int))) (dN d place (cs[k]?.getD Cn.zero)) (eD d place (cs[k]?.getD Cn.zero))=some r→rtIn D G (sW d place cs) (vD d place cs) H t rs (k+1)=some (V.set k r)):=Hd<|fun r h=>Bg br.1 h
   have eB:Hv (growF G (shc H (gq D (skp V k)) (5*(t:Int))) (dN d place (cs[k]?.getD Cn.zero)) (eD d place (cs[k]?.getD Cn.zero))=none→routeF d place cs=([],false)):=Hd<|fun h=>aO.1.trans (Bj (Bi br.1 h R))
   have dH:0<=dN d place (cs[k]?.getD Cn.zero)/\dN d place (cs[k]?.getD Cn.zero)<(D:Int):=(ce.1 k R).1;have eA:Hv (∀s∈eD d place (cs[k]?.getD Cn.zero),0<=s/\s<(D:Int)):=Hd<|(ce.1 k R).2
   have ao:nD (place.length:Int) (cs[k]?.getD Cn.zero):=by rw[List.getElem?_eq_getElem ah];exact bW.1.fit _ (List.getElem_mem ah)
   obtain⟨bs,os,bF,dq,dp⟩:=cU.1.2 (by omega);have ck:=dp k R;rw[Kg d place cs R]at ck;obtain⟨bn,on,SA,m,mc,bE,cF,cq,rq⟩:=dn.1.rowsR (k:=k) (by rw[show(uq d place cs cn).length=cn by simp[uq]];exact R);rw[Kh d place cs R]at rq;have c8:=Hd rq.ints
   have dY:m<=120:=by
    have h1:=c8.1.1;unfold eD at h1;rw[List.length_map]at h1;have h2:=ao.len.2;omega
   obtain⟨dy,cV⟩:=hd2 bF bE;clear ah dp ao rq bF bE;obtain rfl:=dy.1;obtain rfl:=cV.1;generalize dN d place (cs[k]?.getD Cn.zero)=sv at *;generalize eD d place (cs[k]?.getD Cn.zero)=kv at *;obtain⟨s0,rfl⟩:∃s0:Nat,sv=(s0:Int):=⟨_,(Int.toNat_of_nonneg dH.1).symm⟩;have ca:s0<D:=by omega
   obtain⟨k0,k1⟩:=ib (by omega:k<cn);have I:Hv (∀w',Below W2.heap.size W2 w'→(w'.cell? ⟨bs,os+k,none⟩=some (.int .i64 (s0:Int))/\w'.cell? ⟨bn,on+k,none⟩=some (.slice SA m mc))):=Hd<|fun v hv=>⟨(hv.cell (p:=⟨bs,os+k,none⟩) dq).trans ck,(hv.cell (p:=⟨bn,on+k,none⟩) cF).trans cq⟩
   have eg:=(Y.1.blk 0 rfl).1;have ak:=Y.1.celsLen 1 rfl;rw[kF,aj.1]at ak;have a2:=Hd ak
   have ay:Hv (∀u∈vs.toList,u.oneCell'=true):=Hd<|by
    obtain⟨F,el,_⟩:=Y.1.part 1 rfl;exact dh.one (show dh wr _ vs.toList F from el)
   clear ck cq dH eg ak;have bl:=Hd (Y.1.pushVals0.drew);go_upto_region 23 with fail;have ek:IntKind.i64.wrap ((k:Int)+1)=(k:Int)+1:=IntWalk.i64_in _ (by omega);have k2:(0:Int)<=(k:Int)+1:=by omega
   have k3:(k:Int)+1<=(cn:Int):=by omega
   have k4:(k:Int)<=(cn:Int):=by omega
   have k5:((k:Int)+1).toNat=k+1:=by omega
   have k6:(k:Int)<=(k:Int)+1:=by omega
   have d2:¬cn=0:=by omega
   go_cut[19] (fun ov w'=>∃g n c,ov=.slice (some ⟨g,0,none⟩) n c/\n+1=cn/\aD W2 w' [.blk gR vs 114,.cels ((V).flatMap Rou.cells) (vs).toList,.cel (aI H) (.slice (some ⟨gH,0,none⟩) D D),qR g n c (vs.toList.take (k*2)++vs.toList.drop ((k+1)*2))])
   case first =>
    by_cases ew:cn=k+1
    ·subst ew
     go_region_held3 (fun _=>True)
      (first|exact trivial)
      ((first
       | (refine nu rfl _ _ (by rfl) _ bl.1 3 _ 0 0 k _ (some ⟨gR,0,none⟩) [] (vs.toList.take (k*2)) rfl (by rfl) (by rfl) (fun _=>⟨gR,0,rfl,fun j u hu=>by rw[Nat.zero_add];exact aC (bl.1.blk 0 rfl).1 (by rw[←Array.getElem?_toList];exact G9 hu)⟩) (fun u hu=>ay.1 u (List.mem_of_mem_take hu)) (by rw[List.length_take,Array.length_toList,a2.1];omega) (by omega) ?_;intro g8 az w8 T8;have aQ:=Hd T8;clear T8)
       | (refine nu rfl _ _ (by rfl) _ aQ.1 3 g8 _ az _ _ _ _ (vs.toList.drop ((k+1)*2)) rfl (by rfl) (by rfl) (fun h=>absurd h (by omega)) (fun u hu=>ay.1 u (List.mem_of_mem_drop hu)) (by rw[List.length_drop,Array.length_toList,a2.1];omega) (by omega) ?_;intro g9 bG w9 T9;have Z:=Hd T9;clear T9)))
     all_goals
      go_wp2;go_meet;have h:=Z.1;rw[List.nil_append,Nat.zero_add]at h
      (try rw[Nat.add_zero]at h)
      exact⟨_,_,_,rfl,by omega,h⟩
    skip
    go_region_held3 (fun _=>True)
     (first|exact trivial)
     ((first
      | (refine nu rfl _ _ (by rfl) _ bl.1 3 _ 0 0 k _ (some ⟨gR,0,none⟩) [] (vs.toList.take (k*2)) rfl (by rfl) (by rfl) (fun _=>⟨gR,0,rfl,fun j u hu=>by rw[Nat.zero_add];exact aC (bl.1.blk 0 rfl).1 (by rw[←Array.getElem?_toList];exact G9 hu)⟩) (fun u hu=>ay.1 u (List.mem_of_mem_take hu)) (by rw[List.length_take,Array.length_toList,a2.1];omega) (by omega) ?_;intro g8 az w8 T8;have aQ:=Hd T8;clear T8)
      | (refine nu rfl _ _ (by rfl) _ aQ.1 3 g8 _ az _ _ _ _ (vs.toList.drop ((k+1)*2)) rfl (by rfl) (by rfl) (fun _=>⟨gR,(k+1)*2,rfl,fun j u hu=>aC (aQ.1.blk 0 rfl).1 (by rw[←Array.getElem?_toList];rw[List.getElem?_drop]at hu;exact hu)⟩) (fun u hu=>ay.1 u (List.mem_of_mem_drop hu)) (by rw[List.length_drop,Array.length_toList,a2.1];omega) (by omega) ?_;intro g9 bG w9 T9;have Z:=Hd T9;clear T9)))
    all_goals
     go_wp2;go_meet;have h:=Z.1;rw[List.nil_append,Nat.zero_add]at h
     (try rw[Nat.add_zero]at h)
     exact⟨_,_,_,rfl,by omega,h⟩
   clear ek k2 k3 k4 k5 k6 d2;obtain⟨gO,nO,cO,rfl,cE,aP⟩:=hcut;have a3:=Hd aP;have c9:=Hd (fun(v:World) (hR:RdC v v.heap.size (bM (skp V k)) (.slice (some ⟨gO,0,none⟩) nO cO))=>CW D (skp V k) (some ⟨gO,0,none⟩) nO cO v hR (by omega) (by omega) (fun r hr=>⟨Nat.le_trans (am.1.nodes (Jb hr)).1 (by omega),(am.1.nodes (Jb hr)).2⟩));have bq:Hv (∀x:Nat,0<=(gq D (skp V k))[x]?.getD 0/\(gq D (skp V k))[x]?.getD 0<=100):=Hd<|fun x=>vv (N:=D) (m:=100) (rs:=skp V k) (by have h:=LX V k;rw[aj.1]at h;omega) x
   have dj:Hv (∀(v:World) (ps:List Pc),aD W2 v ps→ps[1]?=some (.cels (V.flatMap Rou.cells) vs.toList)→ps[3]?=some (qR gO nO cO (vs.toList.take (k*2)++vs.toList.drop ((k+1)*2)))→RdC v v.heap.size (bM (skp V k)) (.slice (some ⟨gO,0,none⟩) nO cO)):=Hd<|fun v ps h h1 h3=>h.rdOthers 1 3 h1 h3 (by rw[aj.1];exact R) (by rw[aj.1];exact cE)
   generalize gq D (skp V k)=U at *;have db:=Hd (fun(v:World) (UA:Oh) (hH:bT v (some ⟨gH,0,none⟩) D H) (hU:bT v UA D U)=>yT (some ⟨gH,0,none⟩) UA D D D H U (5*(t:Int)) v hH hU (by omega) (fun x hx=>⟨(bf.1.bd x hx).1,by have:=(bf.1.bd x hx).2;omega⟩) bq.1 (by omega) (by omega));have dX:=Hd (JG (p:=5*(t:Int)) aY.1.len aY.1.gin da bf.1 (fun x=>(bq.1 x).1) (by omega));generalize shc H U (5*(t:Int))=C at *;have di:=Hd (fun(v:World) (bx:Oh) (b9:Nat) (hv:Below W2.heap.size W2 v) (hC:bT v bx D C)=>BL D G K C kv s0 gG bx SA b9 m mc v (eb.1.below hv) hC (c8.1.below hv) dX.1 (by omega) aY.1.le (by omega) ca eA.1 d8.1);have ev:IntKind.i64.wrap (5*(t:Int))=5*(t:Int):=IntWalk.i64_in _ (by omega);obtain⟨c0,c1⟩:=I.1 _ aP.bel;have eu:=aJ aP.bel dq;have eo:=aJ aP.bel cF;have z:=Hd aP.drew;clear cE aP;go_upto_region 24 with fail
   go_cut[20,21] (fun gv ov w'=>∃g ok A n c B q,gv=.pointer (some ⟨g,0,none⟩)/\ov=.bool ok/\(ok=false/\growF G C (s0:Int) kv=none/\aD W2 w' []∨ok=true/\∃r,growF G C (s0:Int) kv=some r/\pu D r/\aD W2 w' [.blk gR vs 114,.cels (V.flatMap Rou.cells) vs.toList,.cel (aI r.nodes) (.slice A n c),.cel (aI r.from_) (.slice B n q),.cel (aI H) (.slice (some ⟨gH,0,none⟩) D D),qR gO nO cO (vs.toList.take (k*2)++vs.toList.drop ((k+1)*2)),.blk g #[.slice A n c,.slice B n q] 114]))
   case first =>
    go_region_held3 (fun w'=>w'.cell? ⟨bs,os+k,none⟩=some (.int .i64 (s0:Int))/\w'.cell? ⟨bn,on+k,none⟩=some (.slice SA m mc))
     (first|with_reducible exact I.1 _ z.1.bel|with_reducible exact I.1 _ (a3.1.pushBlk #[.slice none 0 0,.slice none 0 0] 114).drew.bel|with_reducible exact I.1 _ (z.1.pushBlk #[.slice none 0 0,.slice none 0 0] 114).bel|with_reducible exact I.1 _ (z.1.pushBlk #[.slice A7 n7 c7,.slice B7 n7 q7] 114).bel|exact I.1 _ ((z.1.put 4 rfl 0 _).put 4 rfl 1 _).bel)
     ((first
      | (go_at_call 193;first
       | ((with_reducible refine(c9.1 _ (dj.1 _ _ z.1 rfl rfl)).mono ?_);rintro _ w5 ⟨UA,rfl,o5,b5⟩;replace z:=Hd (z.1.below b5);have cp:=Hd o5.ints;clear b5 o5)
       | ((with_reducible refine(c9.1 _ (dj.1 _ _ (a3.1.pushBlk #[.slice none 0 0,.slice none 0 0] 114).drew rfl rfl)).mono ?_);rintro _ w5 ⟨UA,rfl,o5,b5⟩;replace z:=Hd ((a3.1.pushBlk #[.slice none 0 0,.slice none 0 0] 114).drew.below b5);have cp:=Hd o5.ints;clear b5 o5))
      | (go_at_call 192;first
       | ((with_reducible refine(db.1 _ _ (z.1.ints 2 rfl) cp.1).mono ?_);rintro _ w6 ⟨bx,b9,rfl,o6,b6⟩;replace z:=Hd (z.1.below b6);have ct:=Hd o6.ints;clear b6 o6)
       | ((with_reducible refine(db.1 _ _ ((z.1.pushBlk #[.slice none 0 0,.slice none 0 0] 114).ints 2 rfl) (cp.1.below (aB (Below.refl _ _) _))).mono ?_);rintro _ w6 ⟨bx,b9,rfl,o6,b6⟩;replace z:=Hd ((z.1.pushBlk #[.slice none 0 0,.slice none 0 0] 114).below b6);have ct:=Hd o6.ints;clear b6 o6))
      | (go_at_call 191;first
       | ((with_reducible refine(di.1 _ _ _ z.1.bel ct.1).mono ?_);rintro e7 w7 ⟨ok,A7,n7,c7,B7,q7,rfl,h7,b7⟩;have H7:=Hd h7;have cv:=z;replace z:=Hd (z.1.below b7);(try(have r0:=aC (k:=0) (z.1.blk 4 rfl).1 rfl;have V:=aC (k:=1) (z.1.blk 4 rfl).1 rfl;have eh:=aN (z.1.blk 4 rfl).1 0;have en:=aN (z.1.blk 4 rfl).1 1;have lr:=aH (z.1.blk 4 rfl).1));clear b7 h7)
       | ((with_reducible refine(di.1 _ _ _ (z.1.pushBlk #[.slice none 0 0,.slice none 0 0] 114).bel (ct.1.below (aB (Below.refl _ _) _))).mono ?_);rintro e7 w7 ⟨ok,A7,n7,c7,B7,q7,rfl,h7,b7⟩;have H7:=Hd h7;have cv:=Hd (z.1.pushBlk #[.slice none 0 0,.slice none 0 0] 114);replace z:=Hd ((z.1.pushBlk #[.slice none 0 0,.slice none 0 0] 114).below b7);(try(have r0:=aC (k:=0) (z.1.blk 4 rfl).1 rfl;have V:=aC (k:=1) (z.1.blk 4 rfl).1 rfl;have eh:=aN (z.1.blk 4 rfl).1 0;have en:=aN (z.1.blk 4 rfl).1 1;have lr:=aH (z.1.blk 4 rfl).1));clear b7 h7))))
    all_goals
     go_wp2;go_meet
     rcases H7.1 with⟨rfl,hg⟩|⟨rfl,r,hg,a6,S7⟩
     ·first
       | exact⟨_,false,A7,n7,c7,B7,q7,rfl,rfl,.inl ⟨rfl,hg,aD.nil ((z.1.put 4 rfl 0 _).put 4 rfl 1 _).bel⟩⟩
       | exact⟨_,false,A7,n7,c7,B7,q7,rfl,rfl,.inl ⟨rfl,hg,aD.nil (z.1.pushBlk _ _).bel⟩⟩
     first
      | exact⟨_,true,A7,n7,c7,B7,q7,rfl,rfl,.inr ⟨rfl,r,hg,a6,((cv.1.join9 S7).swap2.put 6 rfl 0 _).put 6 rfl 1 _⟩⟩
      | exact⟨_,true,A7,n7,c7,B7,q7,rfl,rfl,.inr ⟨rfl,r,hg,a6,(cv.1.join9 S7).swap2.pushBlk _ _⟩⟩
   obtain⟨gB,ok,A7,n7,c7,B7,q7,rfl,rfl,cr⟩:=hcut;clear c0 c1 eu eo z ev
   rcases cr with⟨rfl,hg,a9⟩|⟨rfl,r,hg,a6,a9⟩
   ·have Q:=Hd (eB.1 hg);have J:=Hd (aA aK.1 a9.bel);clear hg a9;go_wp2
    go_ret2
    first|exact .inr ⟨Q.1,⟨_,_,rfl,aD.nil J.1⟩⟩|exact .inr ⟨Q.1,⟨_,_,rfl⟩,aD.nil J.1⟩
   have Z:=Hd a9;have bm:=Hd (eM.1 r hg);have ae:=Hd (am.1.set (k:=k) a6);have ak:=a2.1;have hb:=(Z.1.blk 0 rfl).1;obtain⟨v0,cI⟩:∃v,vs[k*2]?=some v:=⟨_,Array.getElem?_eq_getElem (by omega)⟩;obtain⟨v1,dm⟩:∃v,vs[k*2+1]?=some v:=⟨_,Array.getElem?_eq_getElem (by omega)⟩;have d0:=aC (k:=k*2) hb cI;have d1:=aC (k:=k*2+1) hb dm;have e0:=aN hb (k*2);have e1:=aN hb (k*2+1);have lb:=aH hb;have r0:=aC (k:=0) (Z.1.blk 6 rfl).1 rfl;have fu:=aC (k:=1) (Z.1.blk 6 rfl).1 rfl;have lr:=aH (Z.1.blk 6 rfl).1;have a5:=Hd (Z.1.putRou (by rw[aj.1];exact R));clear hg a6 a9 ak hb cI dm;go_wp2;go_roundw
   ·exact⟨k+1,V.set k r,_,by omega,by go_num,bm.1,ae.1,a5.1.sub (by exact List.Sublist.cons_cons _ (List.Sublist.cons_cons _ (List.Sublist.cons _ (List.Sublist.cons _ (List.sublist_append_left [_] [_,_])))))⟩
   simp[intOf];omega
  have bg:k=cn:=by omega
  have ci:=dF (by omega:cn<=k);have aq:=br.1;rw[bg]at aq;have d6:Hv (ovr (gq D V) D→routeF d place cs=rtGo D G (sW d place cs) (vD d place cs) cn (12-t) (t+1) V (l8 H (gq D V) D)):=Hd<|fun h=>aO.1.trans (Bn aq h)
  have d4:Hv (¬ovr (gq D V) D→routeF d place cs=(V,true)):=Hd<|fun h=>aO.1.trans (Bl aq h)
  clear bg aq br;go_wp2_with fail;refine(CW D V (some ⟨gR,0,none⟩) cn cn _ (Y.1.rdRow 0 1 2 cn cn rfl rfl (by rw[kF,aj.1])) (by omega) (by omega) (fun r hr=>⟨Nat.le_trans (am.1.nodes hr).1 (by omega),(am.1.nodes hr).2⟩)).mono ?_;rintro _ w3 ⟨UA,rfl,o3,b3⟩;have aE:=Hd (Y.1.pushOwn b3 o3);have bq:Hv (∀x:Nat,0<=(gq D V)[x]?.getD 0/\(gq D V)[x]?.getD 0<=100):=Hd<|fun x=>vv (N:=D) (m:=100) (rs:=V) (by rw[aj.1];exact cW) x
  have b4:Hv (∀q,vU D (l8 H (gq D V) q) (t+1)):=Hd<|fun q=>bf.1.step aj.1 cW q
  have ea:Hv (H.length=D):=Hd<|bf.1.len
  clear o3 b3;generalize gq D V=U at *;go_wp2
  go_loopw[22,124] (fun ov kv wr=>∃q:Nat,q<=D/\ov=.bool (tb (ovr U q))/\kv=.int .i64 (q:Int)/\aD W2 wr [.blk gR vs 114,.cels ((V).flatMap Rou.cells) (vs).toList,.cel (aI (l8 H U q)) (.slice (some ⟨gH,0,none⟩) D D),.cel (aI U) (.slice UA D D)]) (fun _ kv _=>D-(intOf kv).toNat)
  ·exact⟨0,by omega,by rw[dU (FT U)],rfl,by rw[CS];exact aE.1⟩
  obtain⟨q,hq,rfl,rfl,hs⟩:=hrel;have Y:=Hd hs;clear hs;by_cases R:q<D
  ·have dS:=dT (by omega:q<D);have fo:=bq.1 q;have fF:=((b4.1 q).bd q R).1;have eR:=((b4.1 q).bd q R).2;obtain⟨bu,ou,dB,ft,dw⟩:=(Y.1.ints 3 rfl).2 (by omega);have eH:=Hd dB;have cu:=dw q R;have b0:=Hd (CU H U (k:=q));have cb:=Hd (CV (H:=H) (U:=U) (k:=q) (by rw[ea.1];exact R));obtain⟨g1,df,_,lg,cX,fX,bS⟩:=Y.1.setI 2 rfl R;obtain rfl:gH=g1:=by injection df with h;injection h
   have aV:=Hd bS;have d5:=Hd (Ja (U:=U) (k:=q));have ei:=Hd (LW (U:=U) (k:=q));clear dB dw df bS;obtain rfl:=eH.1;generalize U[q]?.getD 0=u at *;obtain⟨q0,q1⟩:=ib (by omega:q<D);by_cases h1:1<u
   ·have dM:decide (u>1)=true:=by simp;omega
    have HO:Hv (tb (ovr U (q+1))=true):=Hd<|bZ (d5.1 h1)
    have cG:=Hd (cb.1 h1);have cQ:=Hd (aV.1 ((l8 H U q)[q]?.getD 0+4*(u-1)));rw[cG.1]at cQ;generalize (l8 H U q)[q]?.getD 0=h at *;have fH:IntKind.i64.wrap (u-1)=u-1:=IntWalk.i64_in _ (by omega);have fn:IntKind.i64.wrap (4*(u-1))=4*(u-1):=IntWalk.i64_in _ (by omega);have fz:IntKind.i64.wrap (h+4*(u-1))=h+4*(u-1):=IntWalk.i64_in _ (by omega);clear h1 b0 cb aV;go_wp2;go_roundw
    ·exact⟨q+1,by omega,by rw[HO.1],by go_num,cQ.1⟩
    simp[intOf];omega
   have dM:decide (u>1)=false:=by simp;omega
   have HO:Hv (tb (ovr U (q+1))=tb (ovr U q)):=Hd<|by show _=_;rw[show ovr U (q+1)=ovr U q from propext (ei.1 h1)]
   have dd:=Hd (b0.1 h1);clear h1 b0 cb aV;go_wp2;go_roundw
   ·exact⟨q+1,by omega,by rw[HO.1],by go_num,by rw[dd.1];exact Y.1⟩
   simp[intOf];omega
  have a7:q=D:=by omega
  have dS:=dF (by omega:D<=q);rw[a7]at Y;have J:=Hd (aA aK.1 Y.1.bel);by_cases ho:ovr U D
  ·have a1:tb (ovr U q)=true:=by rw[a7];exact bZ ho
   have ae:=Hd (d6.1 ho);have em:=Hd (b4.1 D);have bz:=Hd (Y.1.sub (List.sublist_append_left [_,_,_] [_]));rw[a1];clear a7 ho a1;go_wp2;go_roundw
   ·exact⟨t+1,V,_,_,by omega,by omega,by go_num,bz.1,am.1,em.1,by rw[show 13-(t+1)=12-t by omega];exact ae.1⟩
   simp[intOf];omega
  have a1:tb (ovr U q)=false:=by rw[a7];exact dU ho
  have ae:=Hd (d4.1 ho);have ak:=Y.1.celsLen 1 rfl;rw[kF,aj.1]at ak;have bz:=Hd (((Y.1.fuseN 0 1 2 (by decide) rfl rfl ak (by unfold maxLen;omega)).sub (qs:=[.cel (bM V) (.slice (some ⟨gR,0,none⟩) cn cn)]) (by exact List.Sublist.cons_cons _ (List.nil_sublist _))).lowerC aK.1 (lo:=_) (hi:=_) aK.1.size (Nat.le_refl _) (Chg.refl' _ _ _));rw[a1];clear a7 ho a1 ak;go_wp2
  go_ret2
  first|exact .inl ⟨_,_,_,ae.1,rfl,bz.1⟩|exact .inl ⟨_,ae.1,_,_,rfl,bz.1⟩
 have bI:t=13:=by omega
 have d9:decide ((t:Int)<=12)=false:=by simp;omega
 have Q:Hv (routeF d place cs=([],false)):=Hd<|by show _=_;rw[aO.1,bI];rfl
 have J:=ad;clear bI;go_wp2
 go_ret2
 first|exact .inr ⟨Q.1,⟨_,_,rfl,aD.nil J.1⟩⟩|exact .inr ⟨Q.1,⟨_,_,rfl⟩,aD.nil J.1⟩
theorem CY:(Tryz.prog.info? 96).map (fun i=>(i.zero,i.size,i.bytes))=some (some (.agg #[.slice none 0 0,.int .i64 0]),2,32):=by kernel_rfl
theorem CZ:(Tryz.prog.info? 91).map (fun i=>(i.zero,i.size,i.bytes))=some (some (.agg #[.int .i64 0,.int .i64 0,.slice none 0 0]),3,40):=by kernel_rfl
theorem aD.fill{W w w':World}{g:List Pc}{c:Cel}{v:Value}{hi:Nat}(h:aD W w g)(j:Nat)(hj:g[j]?=some (.cels [] []))(hb:Below w.heap.size w w')(ho:iM w.heap.size hi w' c v):aD W w' (g.set j (.cel c v)):=by
 obtain⟨F,k1,k2,k3,q⟩:=h.part j hj;obtain⟨G,u,B,z⟩:=ho;exact q w' _ G u B (fun k hk => .inr (z k hk).1) ⟨hb.os,hb.tape,hb.output,hb.size,fun k hk _=>hb.block k hk⟩
theorem aD.fillOwn{W w w':World}{g:List Pc}{A:Oh}{n c:Nat}{xs:List Int}(h:aD W w g)(j:Nat)(hj:g[j]?=some (.cels [] []))(hb:Below w.heap.size w w')(ho:Own w.heap.size w' A n c xs):aD W w' (g.set j (.cel (aI xs) (.slice A n c))):=by
 have h1:=((aD.nil (Below.refl w.heap.size w)).pushOwn hb ho).tree 0 rfl;exact h.fill j hj hb h1
theorem aD.holes{W w:World}{g:List Pc}(h:aD W w g):aD W w (.cels [] []::.cels [] []::g) :=
 (h.cons (Below.refl _ _) (p := .cels [] []) (G:=[]) (show dh w [] [] [] from dH.2 ⟨rfl,rfl⟩) (by simp) (by simp)).cons (Below.refl _ _) (p := .cels [] []) (G:=[]) (show dh w [] [] [] from dH.2 ⟨rfl,rfl⟩) (by simp) (by simp)
theorem syn{P:Program}{f:FuncId}{args:Array Value}{Q:Ending→World→Prop}{W w:World}{g:List Pc}(h:aD W w g)(k:aD W w g→Calls P f args w Q):Calls P f args w Q:=k h
theorem EP{P:Program}{ops:Array Oper}{o:Oper}{a:Act}{Q:Exit→Act→World→Prop}{K:Act→World→Prop}{E:Prop}{W w:World}{g:List Pc}(h:aD W w g)(k:aD W w g→if Region.wanted o (yielded ops a.tmps)=true then Oper.wp P o a w K Q else E):if Region.wanted o (yielded ops a.tmps)=true then Oper.wp P o a w K Q else E:=k h
theorem Nc{w:World}{g:Nat}{a b c d:Value}{t:TypeId}(h:w.heap[g]?=some (.cells #[a,b,c,d] t (0,0))):w.cell? ⟨g,0,none⟩=some a/\w.cell? ⟨g,1,none⟩=some b/\w.cell? ⟨g,2,none⟩=some c/\w.cell? ⟨g,3,none⟩=some d/\(∀k,w.frozen? ⟨g,k,none⟩=false)/\g<w.heap.size :=
 ⟨aC (k:=0) h rfl,aC (k:=1) h rfl,aC (k:=2) h rfl,aC (k:=3) h rfl,aN h,aH h⟩
theorem aD.toSq{W w:World}{g:List Pc}(h:aD W w g)(j:Nat)(k i:Int){xs:List Int}{v:Value}(hj:g[j]?=some (.cel (aI xs) v)):aD W w (g.set j (.cels (⟨k,i,xs⟩:Sq).cells (#[Value.int .i64 k,Value.int .i64 i,v]:Array Value).toList)) :=
 h.same j (p' := .cels (⟨k,i,xs⟩:Sq).cells (#[Value.int .i64 k,Value.int .i64 i,v]:Array Value).toList) hj fun F h=>show dh w [.int k,.int i,aI xs] [.int .i64 k,.int .i64 i,v] F from
  bU.2 ⟨_,_,[],F,rfl,rfl,dZ.2 ⟨rfl,rfl⟩,bU.2 ⟨_,_,[],F,rfl,rfl,dZ.2 ⟨rfl,rfl⟩,bU.2 ⟨v,[],F,[],rfl,(List.append_nil F).symm,h,dH.2 ⟨rfl,rfl⟩⟩⟩⟩
theorem aD.toLt{W w:World}{g:List Pc}(h:aD W w g)(j:Nat)(m:Int){xs:List Int}{v:Value}(hj:g[j]?=some (.cel (aI xs) v)):aD W w (g.set j (.cels (⟨xs,m⟩:Lt).cells (#[v,Value.int .i64 m]:Array Value).toList)) :=
 h.same j (p' := .cels (⟨xs,m⟩:Lt).cells (#[v,Value.int .i64 m]:Array Value).toList) hj fun F h=>show dh w [aI xs,.int m] [v,.int .i64 m] F from
  bU.2 ⟨v,_,F,[],rfl,(List.append_nil F).symm,h,bU.2 ⟨_,_,[],[],rfl,rfl,dZ.2 ⟨rfl,rfl⟩,dH.2 ⟨rfl,rfl⟩⟩⟩
theorem Ha(xs:List Sq)(x:Sq):aY (xs++[x])=.row 91 3 (xs.flatMap Sq.cells++x.cells):=by
 unfold aY;rw[List.flatMap_append,List.flatMap_singleton]
theorem He(xs:List Lt)(x:Lt):aj (xs++[x])=.row 96 2 (xs.flatMap Lt.cells++x.cells):=by
 unfold aj;rw[List.flatMap_append,List.flatMap_singleton]
theorem yu{α:Type}{xs:List α}{k:Nat}(z:α)(hk:k<xs.length):xs.take (k+1)=xs.take k++[xs[k]?.getD z]:=by
 rw[List.take_add_one,List.getElem?_eq_getElem hk];rfl
theorem EQ(xs:List Sq)(A:Oh)(n c:Nat)(w:World)(h:RdC w w.heap.size (aY xs) (.slice A n c))(hn:n<=1048576)(hb:∀x∈xs,x.ins.length<=1048576) :
  Calls Tryz.prog 194 #[.slice A n c] w fun e w'=>∃G D,e=.returned (.slice G n D)/\aD w w' [.cel (aY xs) (.slice G n D)]:=by
 have Z:=h.sqN';obtain⟨H,HX,HB⟩:=hd3 Z h hb;obtain⟨ar,al,ag,ai,ah⟩:=info_parts CZ;have u:=Hd (And.intro al (And.intro ag (And.intro ai ah)));clear ag ai ah h hb Z;have ao:=Hd ((aD.refl w).pushNil 91 3);go_enter Tryz.func194,Tryz.ntmps194;go_wp2
 go_loopw[3,8] (fun ov iv wr=>∃(k:Nat) (G:Oh) (D:Nat),k<=n/\ov=.slice G k D/\iv=.int .i64 (k:Int)/\aD w wr [.cel (aY (xs.take k)) (.slice G k D)]) (fun _ iv _=>n-(intOf iv).toNat)
 ·exact⟨0,_,_,by omega,rfl,rfl,ao.1⟩
 obtain⟨k,G,D,hk,rfl,rfl,hs⟩:=hrel;have J:=Hd hs;clear hs;by_cases aw:k<n
 ·have au:decide ((k:Int)<(n:Int))=true:=decide_eq_true (by omega);have q:k<xs.length:=by rw[H.1];exact aw
  obtain⟨sb,so,K,z,Y,hA,B,d0,d1,d2,rI⟩:=HX.1.sq' (k:=k) q;have ax:=Hd (yu Sq.zero q);have HA:=Hd hA;have U:(xs[k]?.getD Sq.zero).ins.length<=1048576:=by rw[List.getElem?_eq_getElem q];exact HB.1 _ (List.getElem_mem q)
  have ak:=aJ J.1.bel B;rw[←J.1.bel.cell (p:=⟨sb,so+k*3,none⟩) B]at d0;rw[←J.1.bel.cell (p:=⟨sb,so+k*3+1,none⟩) B]at d1;rw[←J.1.bel.cell (p:=⟨sb,so+k*3+2,none⟩) B]at d2;generalize xs[k]?.getD Sq.zero=x at *;obtain⟨V,Q,ins⟩:=x;simp only at d0 d1 rI U;have HI:Hv (∀v:World,Below w.heap.size w v→bT v K z ins):=Hd<|fun v hv=>(rI.below hv).ints
  have aI:z<=1048576:=by rw[←rI.ints.1];exact U
  obtain⟨k0,k1⟩:=ib (by omega:k<n);clear hA rI U q;obtain rfl:=HA.1;go_upto_region 5 with fail;clear d0 d1 d2 ak;have I:=Hd (J.1.pushBlk #[.int .i64 V,.int .i64 Q,.slice K z Y] 91);obtain⟨gX,W⟩:∃g,wr.heap.size=g:=⟨_,rfl⟩;generalize wr.alloc (.cells #[.int .i64 V,.int .i64 Q,.slice K z Y] 91)=w5 at *;rw[W]at I
  (try rw[W])
  clear W J;obtain⟨x0,x1,x2,lx⟩:=j6 (I.1.blk 1 rfl).1;have R:Hv (∀(w':World) (ps:List Pc),aD w w' ps→ps[1]?=some (.blk gX #[.int .i64 V,.int .i64 Q,.slice K z Y] 91)→K3e w' gX (.int .i64 V) (.int .i64 Q) (.slice K z Y)):=Hd<|fun v ps h h1=>⟨aC (k:=0) (h.blk 1 h1).1 rfl,aC (k:=1) (h.blk 1 h1).1 rfl,aC (k:=2) (h.blk 1 h1).1 rfl⟩
  have j:=Hd I.1.drew
  go_region_held3 (fun w'=>K3e w' gX (.int .i64 V) (.int .i64 Q) (.slice K z Y))
   (first|exact R.1 _ _ j.1 rfl|exact R.1 _ _ (j.1.alloc _) rfl|exact R.1 _ _ ad.1 rfl)
   ((first
    | (go_at_call 186;(refine(gV K z Y ins _ (HI.1 _ j.1.bel) (by omega)).mono ?_);rintro _ v6 ⟨IB,id,rfl,o6,b6⟩;replace j:=Hd (j.1.pushOwn b6 o6);clear o6 b6)
    | (refine iL rfl _ _ 38 91 (by rfl) ar _ 3 40 Tryz.underlying38 u.1.1 u.1.2.1 u.1.2.2.1 u.1.2.2.2 rfl (by decide) (by decide) _ ((j.1.alloc _).toSq 2 V Q rfl) 0 2 (by decide) k D _ G ((xs.take k).flatMap Sq.cells) _ #[.int .i64 V,.int .i64 Q,.slice IB z id] _ rfl rfl (by rfl) (by rfl) (aG _ _) rfl (by omega) ?_;intro g9 cap w9 S9 av;have ad:=Hd S9;clear S9 av)))
  all_goals
   go_wp2;go_roundw
   ·exact⟨k+1,_,_,by omega,rfl,by go_num,by rw[ax.1,Ha];exact ad.1.sub (List.sublist_append_left [_] [_,_])⟩
   simp[intOf];omega
 have ae:k=n:=by omega
 have au:=dF (by omega:n<=k);have af:Hv (aD w wr [.cel (aY xs) (.slice G n D)]):=Hd<|by have h:=J.1;rw[ae,←H.1,List.take_of_length_le (Nat.le_refl _),H.1]at h;exact h
 subst ae;go_wp2;go_ret
 first|exact⟨_,_,rfl,af.1⟩|exact⟨_,af.1⟩
theorem yS(xs:List Sq)(A:Oh)(n c:Nat)(w:World)(h:RdC w w.heap.size (aY xs) (.slice A n c))(hn:n<=1048576)(hb:∀x∈xs,x.ins.length<=1048576) :
  Calls Tryz.prog 171 #[.slice A n c] w fun e w'=>∃H G,e=.returned (.slice H n G)/\aD w w' [.cel (aY xs) (.slice H n G)]:=by
 have Q:=h.sqN';obtain⟨I,HX,HB⟩:=hd3 Q h hb;obtain⟨ao,aj,W,Z,Y⟩:=info_parts CZ;have q:=Hd (And.intro aj (And.intro W (And.intro Z Y)));clear W Z Y h hb Q;have am:=Hd ((aD.refl w).pushNew 91 3);go_enter Tryz.func171,Tryz.ntmps171;go_wp2
 go_loopw[3,4] (fun ov iv wr=>∃(k:Nat) (H:Oh) (G:Nat),k<=n/\ov=.slice H k G/\iv=.int .i64 (k:Int)/\aD w wr [.cel (aY (xs.take k)) (.slice H k G)]) (fun _ iv _=>n-(intOf iv).toNat)
 ·exact⟨0,_,_,by omega,rfl,rfl,am.1⟩
 obtain⟨k,H,G,hk,rfl,rfl,hs⟩:=hrel;have HS:=Hd hs;clear hs;by_cases ar:k<n
 ·have ap:decide ((k:Int)<(n:Int))=true:=decide_eq_true (by omega);have j:k<xs.length:=by rw[I.1];exact ar
  obtain⟨u,D,IA,K,ic,hA,z,d0,d1,d2,rI⟩:=HX.1.sq' (k:=k) j;have au:=Hd (yu Sq.zero j);have HA:=Hd hA;have J:(xs[k]?.getD Sq.zero).ins.length<=1048576:=by rw[List.getElem?_eq_getElem j];exact HB.1 _ (List.getElem_mem j)
  generalize xs[k]?.getD Sq.zero=x at *;obtain⟨kd,it,ins⟩:=x;simp only at d0 d1 d2 rI J;have HI:Hv (∀v:World,Below w.heap.size w v→bT v IA K ins):=Hd<|fun v hv=>(rI.below hv).ints
  have aB:K<=1048576:=by rw[←rI.ints.1];exact J
  obtain⟨k0,k1⟩:=ib (by omega:k<n);have B:Hv (∀v:World,Below w.heap.size w v→v.cell? ⟨u,D+k*3,none⟩=some (.int .i64 kd)/\v.cell? ⟨u,D+k*3+1,none⟩=some (.int .i64 it)/\v.cell? ⟨u,D+k*3+2,none⟩=some (.slice IA K ic)):=Hd<|fun v hv=>⟨(hv.cell (p:=⟨u,D+k*3,none⟩) z).trans d0,(hv.cell (p:=⟨u,D+k*3+1,none⟩) z).trans d1,(hv.cell (p:=⟨u,D+k*3+2,none⟩) z).trans d2⟩
  have aA:=aJ HS.1.bel z;clear hA rI J j d0 d1 d2;obtain rfl:=HA.1;obtain⟨x0,x1,x2⟩:=B.1 _ HS.1.bel;have g:=Hd HS.1.drew;go_upto_region 5 with fail
  go_region_held3 (fun w'=>w'.cell? ⟨u,D+k*3,none⟩=some (.int .i64 kd)/\w'.cell? ⟨u,D+k*3+1,none⟩=some (.int .i64 it)/\w'.cell? ⟨u,D+k*3+2,none⟩=some (.slice IA K ic))
   (first|exact B.1 _ g.1.bel|exact B.1 _ (g.1.alloc _).bel|exact B.1 _ R.1.bel)
   ((first
    | (refine nk rfl _ _ (by rfl) _ (g.1.pushNew 3 1) 1 _ 0 0 [] IA K ic ins rfl (by rfl) (by rfl) (HI.1 _ (g.1.alloc _).bel) (by omega) ?_;intro IB id w6 S6 ay;rw[Nat.zero_add,List.nil_append]at S6;(try rw[Nat.zero_add]);replace g:=Hd S6;clear S6 ay)
    | (refine iL rfl _ _ 38 91 (by rfl) ao _ 3 40 Tryz.underlying38 q.1.1 q.1.2.1 q.1.2.2.1 q.1.2.2.2 rfl (by decide) (by decide) _ ((g.1.alloc _).toSq 1 kd it rfl) 0 1 (by decide) k G _ H ((xs.take k).flatMap Sq.cells) _ #[.int .i64 kd,.int .i64 it,.slice IB K id] _ rfl rfl (by rfl) (by rfl) (aG _ _) rfl (by omega) ?_;intro g9 cap w9 S9 aq;have R:=Hd S9;clear S9 aq)))
  all_goals
   go_wp2;go_roundw
   ·exact⟨k+1,_,_,by omega,rfl,by go_num,by rw[au.1,Ha];exact R.1.sub (List.sublist_append_left [_] [_])⟩
   simp[intOf];omega
 have U:k=n:=by omega
 have ap:=dF (by omega:n<=k);have V:Hv (aD w wr [.cel (aY xs) (.slice H n G)]):=Hd<|by have h:=HS.1;rw[U,←I.1,List.take_of_length_le (Nat.le_refl _),I.1]at h;exact h
 subst U;go_wp2;go_ret
 first|exact⟨_,_,rfl,V.1⟩|exact⟨_,V.1⟩
theorem ER(l:aU)(SA LA OA:Oh)(sn sc ln lc on oc:Nat)(w:World)(hN:fA w l SA LA OA sn sc ln lc on oc)(hf:bJ l) :
  Calls Tryz.prog 98 #[ig l SA LA OA sn sc ln lc on oc] w fun e w'=>∃u D B sd ld z,e=.returned (ig l u D B sn sd ln ld on z)/\aD w w' [.cel (aY l.seqs) (.slice u sn sd),.cel (aj l.luts) (.slice D ln ld),.cel (aI l.outs) (.slice B on z)]:=by
 obtain⟨aF,ar,aK⟩:=hN.lens;have bC:sn<=12:=by rw[←aF];exact hf.nseq
 have bu:ln<=400:=by rw[←ar];exact hf.nlut
 have bv:on<=16:=by rw[←aK];exact hf.nout
 obtain⟨al,HN⟩:=hd2 ar hN
 have a4:Hv (∀x∈l.seqs,x.ins.length<=1048576):=Hd<|fun x hx=>by
  obtain⟨i,hi,rfl⟩:=List.getElem_of_mem hx;have h:=(hf.seqs i hi).1;rw[List.getElem?_eq_getElem hi]at h
  rcases h with h|h
  ·have:=h.2.2;simp only[Option.getD_some]at this;omega
  have:=h.2.2;simp only[Option.getD_some]at this;omega
 have bb:Hv (∀x∈l.luts,x.ins.length<=1048576):=Hd<|fun x hx=>by
  obtain⟨i,hi,rfl⟩:=List.getElem_of_mem hx;have h:=(hf.luts i hi).1;rw[List.getElem?_eq_getElem hi]at h;simp only[Option.getD_some]at h;omega
 obtain⟨a3,aT,az,aE,aB⟩:=info_parts CY;have W:=Hd (And.intro aT (And.intro az (And.intro aE aB)));clear az aE aB hN hf aF ar aK;have aW:=Hd (fun(v:World) (hv:Below w.heap.size w v)=>EQ l.seqs SA sn sc v (HN.1.below hv).sq (by omega) a4.1);have a6:Hv (∀v:World,Below w.heap.size w v→bT v OA on l.outs):=Hd<|fun v hv=>(HN.1.below hv).ou.ints
 have h0:=(((aD.refl w).pushBlk #[.int .i64 l.inputs,.slice SA sn sc,.slice LA ln lc,.slice OA on oc] 41).pushBlk #[.int .i64 0,.slice none 0 0,.slice none 0 0,.slice none 0 0] 41).holes;simp only[World.size_alloc]at h0;go_enter Tryz.func98,Tryz.ntmps98;go_upto_region 1 with fail;obtain⟨Y,af⟩:∃g,w.heap.size=g:=⟨_,rfl⟩;obtain⟨gR,ah⟩:∃g,w.heap.size+1=g:=⟨_,rfl⟩;rw[ah]at h0
 (try rw[ah])
 rw[af]at h0
 (try rw[af])
 clear af ah;have G:=Hd h0;clear h0;generalize (w.alloc (.cells #[.int .i64 l.inputs,.slice SA sn sc,.slice LA ln lc,.slice OA on oc] 41)).alloc (.cells #[.int .i64 0,.slice none 0 0,.slice none 0 0,.slice none 0 0] 41)=w0 at *;obtain⟨n0,n1,-,n3,nl⟩:=bA (G.1.blk 2 rfl).1;have q:Hv (∀(w':World) (ps:List Pc),aD w w' ps→ps[2]?=some (.blk Y #[.int .i64 l.inputs,.slice SA sn sc,.slice LA ln lc,.slice OA on oc] 41)→w'.cell? ⟨Y,0,none⟩=some (.int .i64 l.inputs)/\w'.cell? ⟨Y,1,none⟩=some (.slice SA sn sc)/\w'.cell? ⟨Y,3,none⟩=some (.slice OA on oc)):=Hd<|fun v ps h h1=>⟨aC (k:=0) (h.blk 2 h1).1 rfl,aC (k:=1) (h.blk 2 h1).1 rfl,aC (k:=3) (h.blk 2 h1).1 rfl⟩
 have j:=Hd G.1.drew
 go_cut[3] (fun pv w'=>∃gO u sd B z,pv=.pointer (some ⟨gO,0,none⟩)/\aD w w' [.cel (aY l.seqs) (.slice u sn sd),.cel (aI l.outs) (.slice B on z),.blk Y #[.int .i64 l.inputs,.slice SA sn sc,.slice LA ln lc,.slice OA on oc] 41,.blk gR #[.int .i64 0,.slice none 0 0,.slice none 0 0,.slice none 0 0] 41,.blk gO #[.int .i64 l.inputs,.slice u sn sd,.slice none 0 0,.slice B on z] 41])
 case first =>
  go_region_held3 (fun w'=>w'.cell? ⟨Y,0,none⟩=some (.int .i64 l.inputs)/\w'.cell? ⟨Y,1,none⟩=some (.slice SA sn sc)/\w'.cell? ⟨Y,3,none⟩=some (.slice OA on oc))
   (first|with_reducible exact q.1 _ _ j.1 rfl|with_reducible exact q.1 _ _ (G.1.pushBlk #[.int .i64 0,.slice none 0 0,.slice none 0 0,.slice none 0 0] 41).drew rfl|exact q.1 _ _ (j.1.pushBlk #[.int .i64 0,.slice none 0 0,.slice none 0 0,.slice none 0 0] 41) rfl|exact q.1 _ _ (j.1.pushBlk _ 41) rfl|exact q.1 _ _ (j.1.alloc _) rfl|exact q.1 _ _ ((((j.1.put 4 rfl 0 _).put 4 rfl 1 _).put 4 rfl 2 _).put 4 rfl 3 _) rfl)
   ((first
   | (go_at_call 194;(first|with_reducible refine syn j.1 ?_|with_reducible refine syn (G.1.pushBlk #[.int .i64 0,.slice none 0 0,.slice none 0 0,.slice none 0 0] 41).drew ?_|with_reducible refine syn (j.1.pushBlk #[.int .i64 0,.slice none 0 0,.slice none 0 0,.slice none 0 0] 41) ?_);intro hS;replace j:=Hd hS;clear hS;(refine(aW.1 _ j.1.bel).mono ?_);rintro _ v5 ⟨u,sd,rfl,S5⟩;replace j:=Hd (j.1.fill 0 rfl S5.bel (S5.tree 0 rfl));(try obtain⟨r0,r1,r2,r3,rf,lr⟩:=Nc (j.1.blk 4 rfl).1);clear S5)
   | (go_at_call 186;(first|with_reducible refine syn j.1 ?_|with_reducible refine syn (G.1.pushBlk #[.int .i64 0,.slice none 0 0,.slice none 0 0,.slice none 0 0] 41).drew ?_|with_reducible refine syn (j.1.pushBlk #[.int .i64 0,.slice none 0 0,.slice none 0 0,.slice none 0 0] 41) ?_);intro hS;replace j:=Hd hS;clear hS;(refine(gV OA on oc l.outs _ (a6.1 _ j.1.bel) (by omega)).mono ?_);rintro _ v6 ⟨B,z,rfl,o6,b6⟩;replace j:=Hd (j.1.fillOwn 1 rfl b6 o6);(try obtain⟨r0,r1,r2,r3,rf,lr⟩:=Nc (j.1.blk 4 rfl).1);clear o6 b6)))
  all_goals
   go_wp2;go_meet
   first
    | exact⟨_,_,_,_,_,rfl,(((j.1.put 4 rfl 0 _).put 4 rfl 1 _).put 4 rfl 2 _).put 4 rfl 3 _⟩
    | exact⟨_,_,_,_,_,rfl,j.1.pushBlk _ _⟩
 obtain⟨gO,u,sd,B,z,rfl,ap⟩:=hcut;have aX:=Hd (ap.pushNil 96 2);obtain⟨-,-,n2,nl⟩:=j6 (ap.blk 2 rfl).1;clear ap n0 n1 n3 j q G;go_wp2_with fail;clear n2 nl
 go_loopw[18] (fun iv wr=>∃(k:Nat) (D:Oh) (R:Nat),k<=ln/\iv=.int .i64 (k:Int)/\aD w wr [.cel (aY l.seqs) (.slice u sn sd),.cel (aI l.outs) (.slice B on z),.blk Y #[.int .i64 l.inputs,.slice SA sn sc,.slice LA ln lc,.slice OA on oc] 41,.blk gR #[.int .i64 0,.slice none 0 0,.slice none 0 0,.slice none 0 0] 41,.blk gO #[.int .i64 l.inputs,.slice u sn sd,.slice D k R,.slice B on z] 41,.cel (aj (l.luts.take k)) (.slice D k R)]) (fun iv _=>ln-(intOf iv).toNat)
 ·exact⟨0,none,0,by omega,rfl,aX.1⟩
 obtain⟨k,D,R,hk,rfl,hs⟩:=hrel;have HS:=Hd hs;clear hs;by_cases a2:k<ln
 ·have a0:decide ((k:Int)<(ln:Int))=true:=decide_eq_true (by omega);have Q:k<l.luts.length:=by rw[al.1];exact a2
  obtain⟨sb,so,IA,U,ic,hA,ao,d0,d1,rI⟩:=HN.1.lt.lut' (k:=k) Q;have a5:=Hd (yu Lt.zero Q);have HA:=Hd hA;have au:(l.luts[k]?.getD Lt.zero).ins.length<=1048576:=by rw[List.getElem?_eq_getElem Q];exact bb.1 _ (List.getElem_mem Q)
  have aS:=aJ HS.1.bel ao;rw[←HS.1.bel.cell (p:=⟨sb,so+k*2,none⟩) ao]at d0;rw[←HS.1.bel.cell (p:=⟨sb,so+k*2+1,none⟩) ao]at d1;generalize l.luts[k]?.getD Lt.zero=x at *;obtain⟨ins,mk⟩:=x;simp only at d1 rI au;have HI:Hv (∀v:World,Below w.heap.size w v→bT v IA U ins):=Hd<|fun v hv=>(rI.below hv).ints
  have br:U<=1048576:=by rw[←rI.ints.1];exact au
  obtain⟨k0,k1⟩:=ib (by omega:k<ln);clear hA rI au Q;obtain rfl:=HA.1;go_upto_region 5 with fail;clear d0 d1 aS;have aA:=Hd (HS.1.pushBlk #[.slice IA U ic,.int .i64 mk] 96);obtain⟨gX,av⟩:∃g,wr.heap.size=g:=⟨_,rfl⟩;generalize wr.alloc (.cells #[.slice IA U ic,.int .i64 mk] 96)=w5 at *;rw[av]at aA
  (try rw[av])
  clear av HS;have V:Hv (∀(w':World) (ps:List Pc),aD w w' ps→ps[4]?=some (.blk gO #[.int .i64 l.inputs,.slice u sn sd,.slice D k R,.slice B on z] 41)→ps[6]?=some (.blk gX #[.slice IA U ic,.int .i64 mk] 96)→w'.cell? ⟨gX,0,none⟩=some (.slice IA U ic)/\w'.cell? ⟨gX,1,none⟩=some (.int .i64 mk)/\w'.cell? ⟨gO,2,none⟩=some (.slice D k R)):=Hd<|fun v ps h h4 h6=>⟨aC (k:=0) (h.blk 6 h6).1 rfl,aC (k:=1) (h.blk 6 h6).1 rfl,aC (k:=2) (h.blk 4 h4).1 rfl⟩
  have j:=Hd aA.1.drew;refine wp_region_noPanic ?_;refine nG 11 (fun w'=>w'.cell? ⟨gX,0,none⟩=some (.slice IA U ic)/\w'.cell? ⟨gX,1,none⟩=some (.int .i64 mk)/\w'.cell? ⟨gO,2,none⟩=some (.slice D k R)) (V.1 _ _ j.1 rfl rfl) (fun H J=>?_);refine onT H 0 opA J ?_;refine onT H 1 (opB opA) J ?_;refine onT H 2 (opB (opB opA)) J ?_;refine onT H 3 (opB (opB (opB opA))) J ?_;refine onT H 5 (opC (opB opA)) J ?_;refine onT H 6 (opC (opB (opB opA))) J ?_;refine sV H 4 (opC opA) (fun K Z=>?_)
  go_simp
  go_at_call 186
  refine(gV IA U ic ins _ (HI.1 _ j.1.bel) (by omega)).mono ?_;rintro _ v6 ⟨IB,id,rfl,o6,b6⟩;replace j:=Hd (j.1.pushOwn b6 o6);clear o6 b6;refine Z.out _ _ (V.1 _ _ j.1 rfl rfl) (fun J=>?_);clear Z K
  try simp only[Act.put,List.setIfInBounds_toArray,List.set_cons_zero,List.set_cons_succ]
  refine onT H 7 (opC (opB (opB (opB opA)))) J ?_;have HA:=Hd (j.1.alloc (.cells #[.slice IB U id,.int .i64 mk] 96));refine sV H 8 (opC (opC opA)) (fun K Z=>?_)
  go_simp
  refine Z.out _ _ (V.1 _ _ HA.1 rfl rfl) (fun J=>?_);clear Z K
  try simp only[Act.put,List.setIfInBounds_toArray,List.set_cons_zero,List.set_cons_succ]
  refine sV H 9 (opC (opC (opB opA))) (fun K Z=>?_);refine iL rfl _ _ 39 96 (by rfl) a3 _ 2 32 Tryz.underlying39 W.1.1 W.1.2.1 W.1.2.2.1 W.1.2.2.2 rfl (by decide) (by decide) _ (HA.1.toLt 7 mk rfl) 5 7 (by decide) k R _ D ((l.luts.take k).flatMap Lt.cells) _ #[.slice IB U id,.int .i64 mk] _ rfl rfl (by rfl) (by rfl) (aG _ _) rfl (by omega) ?_;intro g9 cap w9 S9 a1;have I:=Hd S9;clear S9 a1;refine Z.out _ _ (V.1 _ _ I.1 rfl rfl) (fun J=>?_);clear Z K
  try simp only[Act.put,List.setIfInBounds_toArray,List.set_cons_zero,List.set_cons_succ]
  have c8:=aC (k:=2) (I.1.blk 4 rfl).1 rfl;have f8:=aN (I.1.blk 4 rfl).1 2;have q8:=aH (I.1.blk 4 rfl).1;refine onT H 10 (opC (opC (opB (opB opA)))) J ?_;refine FL H 11 (opC (opC (opB (opB (opB opA))))) ?_;go_wp2_with fail;refine NoPanic.normal ?_;go_wp2;go_roundw
  ·exact⟨k+1,_,_,by omega,by go_num,by rw[a5.1,He];exact(I.1.put 4 rfl 2 _).sub (List.sublist_append_left [_,_,_,_,_,_] [_,_])⟩
  simp[intOf];omega
 have aR:k=ln:=by omega
 have a0:=dF (by omega:ln<=k);have h9:=HS.1;rw[aR,←al.1,List.take_of_length_le (Nat.le_refl _),al.1]at h9;clear HS;obtain⟨c0,c1,c2,c3,lo⟩:=bA (h9.blk 4 rfl).1;obtain⟨e0,e1,e2,e3⟩:=cs4 (h9.blk 3 rfl).1;have y2:=fun k=>aN (h9.blk 3 rfl).1 k;have lr:=aH (h9.blk 3 rfl).1;have HP:=Hd ((((h9.put 3 rfl 0 (.int .i64 l.inputs)).put 3 rfl 1 (.slice u sn sd)).put 3 rfl 2 (.slice D ln R)).put 3 rfl 3 (.slice B on z));clear h9;go_wp2_with fail;clear c0 c1 c2 c3 lo e0 e1 e2 e3 y2 lr;generalize (((wr.setCell ⟨gR,0,none⟩ (.int .i64 l.inputs)).setCell ⟨gR,1,none⟩ (.slice u sn sd)).setCell ⟨gR,2,none⟩ (.slice D ln R)).setCell ⟨gR,3,none⟩ (.slice B on z)=WF at *;have hb:WF.heap[gR]?=some (.cells #[.int .i64 l.inputs,.slice u sn sd,.slice D ln R,.slice B on z] 41 (0,0)):=(HP.1.blk 3 rfl).1;exact bodyPost_ret (v:=ig l u D B sn sd ln R on z) (kL Tryz.results98 rfl hb Tryz.underlying41 (by kernel_rfl)) rfl ⟨_,_,_,_,_,_,rfl,((HP.1.sub (qs:=[_,_,_]) (.cons_cons _ (.cons_cons _ (.cons _ (.cons _ (.cons _ (List.Sublist.refl _))))))).perm (.cons _ (.swap _ _ _)))⟩
def unE(f:LeT→List Int)(bs:List Blk):List Int:=bs.flatMap fun b=>b.les.flatMap f
theorem AZ(x:Int)(xs:List Int)(n:Int):cnt (x::xs) n=(if x=n then 1 else 0)+cnt xs n:=by
 rw[show x::xs=[x]++xs from rfl,dX]
 congr 1
 unfold cnt;by_cases h:x=n <;> simp[h]
theorem ES{xs:List Int}{n:Int}:0<cnt xs n↔n∈xs:=by
 unfold cnt;rw[List.countP_pos_iff];simp
theorem Cb(f:LeT→List Int)(x:Int):∀{L:List LeT} {p:Nat},p<L.length→cnt (L.flatMap f) x=cnt (f (L[p]?.getD LeT.zero)) x+cnt ((L.eraseIdx p).flatMap f) x
 | [],_,h=>by simp at h
 | y::L,0,_=>by rw[List.flatMap_cons,dX];rfl
 | y::L,p+1,h=>by
  have:=Cb f x (L:=L) (p:=p) (by simpa using h);rw[List.flatMap_cons,dX,List.eraseIdx_cons_succ,List.flatMap_cons,dX,List.getElem?_cons_succ];omega
theorem Jp{l:aU}{e:LeT}{L:List LeT}(h:0<kW l e L):(kW l e L-1).toNat<L.length/\sS l e (L[(kW l e L-1).toNat]?.getD LeT.zero)=true:=by
 unfold kW at *
 rcases ww l e L L.length with h1|⟨h1,h2,_,g⟩
 ·rw[h1]at h;exact absurd h (by decide)
 exact⟨by omega,g⟩
theorem uQ(l:aU)(f:LeT→List Int)(x:Int):∀{n:Nat} {es:List LeT},es.length<=n→cnt (unE f (eY l n es)) x=cnt (es.flatMap f) x
 | 0,es,h=>by
  have:es=[]:=List.eq_nil_of_length_eq_zero (by omega);subst this
  rfl
 | n+1,[],_=>rfl
 | n+1,e::es,h=>by
  simp only[List.length_cons]at h;rw[eY]
  split
  ·rename_i hb;obtain⟨h1,_⟩:=Jp hb;have h2:(es.eraseIdx (kW l e es-1).toNat).length<=n:=by rw[List.length_eraseIdx];split <;> omega
   have h3:=uQ l f x h2;have g:=Cb f x h1;unfold unE at *;rw[List.flatMap_cons,dX,h3,List.flatMap_cons,dX,List.flatMap_cons,List.flatMap_cons,dX,dX];rw[List.flatMap_nil,show cnt [] x=0 from rfl];omega
  have h3:=uQ l f x (n:=n) (es:=es) (by omega);unfold unE at *;rw[List.flatMap_cons,dX,h3,List.flatMap_cons,dX,List.flatMap_cons,List.flatMap_nil,dX];rfl
theorem Nh(xs ys:List Int):(LV xs ys).length<=xs.length:=by
 unfold LV;exact Nat.le_trans (iK _) (List.length_filter_le _ _)
theorem xX{l:aU}(hn:bJ l):∀{n:Nat} {es:List LeT},(∀e∈es,eB l e)→∀b∈eY l n es,ja l b
 | 0,_,_,b,h=>by simp[eY]at h
 | n+1,[],_,b,h=>by simp[eY]at h
 | n+1,e::es,hf,b,h=>by
  have he:=hf e (by simp);have hr:∀y∈es,eB l y:=fun y g=>hf y (by simp[g]);rw[eY]at h
  split at h
  ·rename_i hb;obtain⟨h1,h2⟩:=Jp hb
   rcases List.mem_cons.1 h with rfl|h
   ·refine⟨.inr (.inr (.inr ⟨rfl,fun y g=>?_⟩)),.inl ⟨rfl,rfl,⟨by simp,by simp⟩,of_decide_eq_true h2⟩⟩
    rcases List.mem_cons.1 g with rfl|g
    ·exact he
    rw[List.mem_singleton.1 g,List.getElem?_eq_getElem h1];exact hr _ (List.getElem_mem _)
   exact xX hn (fun y g=>hr y (List.mem_of_mem_eraseIdx g)) b h
  rcases List.mem_cons.1 h with rfl|h
  ·refine⟨.inr (.inr (.inr ⟨rfl,fun y g=>by rw[List.mem_singleton.1 g];exact he⟩)),.inl ⟨rfl,rfl,⟨by simp,by simp⟩,?_⟩⟩;have h1:=(oI hn he).1;have h2:=Nh ([e].flatMap (fD l)) ([e].map (dM l));rw[List.flatMap_singleton]at h2;show(LV ([e].flatMap (fD l)) ([e].map (dM l))).length<=5;rw[List.flatMap_singleton];omega
  exact xX hn hr b h
theorem Jq{l:aU}{b:Blk}(h:b∈ioB l):ja l b:=by
 unfold ioB at h;rw[List.mem_append,List.mem_append]at h
 rcases h with(h|h)|h
 ·obtain⟨i,hi,rfl⟩:=List.mem_map.1 h;have:=List.mem_range.1 hi;exact⟨.inl ⟨rfl,by simp only;omega⟩,.inr ⟨fun h=>(by cases h),rfl,fun h=>by cases h⟩⟩
 ·obtain⟨i,hi,rfl⟩:=List.mem_map.1 h;have:=List.mem_range.1 hi;exact⟨.inr (.inl ⟨rfl,by simp only;omega⟩),.inr ⟨fun h=>(by cases h),rfl,fun h=>by cases h⟩⟩
 obtain⟨i,hi,h⟩:=List.mem_flatMap.1 h;have h2:=List.mem_range.1 hi
 split at h
 ·rename_i hk;rw[List.mem_singleton.1 h];exact⟨.inr (.inr (.inl ⟨rfl,by simp only;omega⟩)),.inr ⟨fun h=>(by cases h),rfl,fun _=>by simpa [aU.sq]using hk⟩⟩
 simp at h
theorem r9{P:Nat→Prop}[DecidablePred P](k:Nat):∀n:Nat,cnt ((List.range n).flatMap fun(i:Nat)=>if P i then[(i:Int)]else[]) (k:Int)=if k<n/\P k then 1 else 0
 | 0=>by simp[cnt]
 | n+1=>by
  rw[List.range_succ,List.flatMap_append,dX,r9 k n,List.flatMap_singleton];by_cases hp:P n
  ·rw[if_pos hp,AZ];by_cases e:k=n
   ·subst e;rw[if_neg (by omega),if_pos rfl,if_pos ⟨by omega,hp⟩];rfl
   rw[if_neg (by omega:¬(n:Int)=(k:Int))];have:(k<n+1/\P k)=(k<n/\P k):=by apply propext;constructor <;> rintro⟨h1,h2⟩ <;> exact⟨by omega,h2⟩
   simp only[this];show _+(0+0)=_;omega
  rw[if_neg hp]
  have:(k<n+1/\P k)=(k<n/\P k):=by
   apply propext
   constructor
   ·rintro⟨h1,h2⟩;refine⟨?_,h2⟩;have:k≠n:=fun e=>hp (e ▸ h2);omega
   rintro⟨h1,h2⟩;exact⟨by omega,h2⟩
  simp only[this];rfl
theorem kg(k:Int)(xs ys:List Blk):bH k (xs++ys)=bH k xs++bH k ys:=by simp[bH]
theorem ET{l:aU}{k:Int}(hk:k≠3){n:Nat}{es:List LeT}:bH k (eY l n es)=[]:=by
 unfold bH;rw[List.flatMap_eq_nil_iff];intro b hb;rw[if_neg]
 have h3:∀{n:Nat} {es:List LeT},∀b∈eY l n es,b.kind=3:=by
  intro n
  induction n with
  | zero=>intro es b h;simp[eY]at h
  | succ n ih =>
   intro es b h
   cases es with
   | nil=>simp[eY]at h
   | cons e es =>
    rw[eY]at h
    split at h <;> rcases List.mem_cons.1 h with rfl|h
    ·rfl
    ·exact ih b h
    ·rfl
    exact ih b h
 rw[h3 b hb];omega
theorem oQ{α:Type}(L:List α)(g:α→Int)(j k:Int):bH k (L.map fun i=>(⟨j,g i,[]⟩:Blk))=if j=k then L.map g else[]:=by
 unfold bH;rw[List.flatMap_map];by_cases h:j=k
 ·rw[if_pos h];simp only[h,if_true]
  induction L with
  | nil=>rfl
  | cons x L ih=>rw[List.flatMap_cons,ih];rfl
 simp[h]
theorem vV{α:Type}(L:List α)(g:α→Int)(P:α→Prop)[DecidablePred P](j k:Int):bH k (L.flatMap fun i=>if P i then[(⟨j,g i,[]⟩:Blk)]else[])=if j=k then L.flatMap fun i=>if P i then[g i]else[]else[]:=by
 unfold bH;rw[List.flatMap_assoc];by_cases h:j=k
 ·rw[if_pos h]
  congr 1
  funext i
  split <;> simp[h]
 rw[if_neg h,List.flatMap_eq_nil_iff];intro i _
 split <;> simp[h]
theorem Ki(n:Nat):(List.range n).map (fun(i:Nat)=>(i:Int))=(List.range n).flatMap fun(i:Nat)=>if True then[(i:Int)]else[]:=by
 simp only[if_true]
 induction List.range n with
 | nil=>rfl
 | cons x L ih=>rw[List.map_cons,List.flatMap_cons,ih];rfl
theorem Cc{n k:Nat}(h:k<n):cnt ((List.range n).map fun(i:Nat)=>(i:Int)) (k:Int)=1:=by
 rw[Ki,r9,if_pos ⟨h,trivial⟩]
theorem Ce(x:Int):∀bs:List Blk,cnt (gm bs) x=cnt (bH 2 bs) x+cnt (unE (fun e=>if 0<=e.ff then[e.ff]else[]) bs) x
 | []=>rfl
 | b::bs=>by
  have:=Ce x bs;unfold gm bH unE at *;rw[List.flatMap_cons,List.flatMap_cons,List.flatMap_cons,dX,dX,dX,dX];omega
theorem Jr(f:LeT→List Int)(xs ys:List Blk):unE f (xs++ys)=unE f xs++unE f ys:=by simp[unE]
theorem Mq(f:LeT→List Int)(l:aU):unE f (ioB l)=[]:=by
 unfold unE;rw[List.flatMap_eq_nil_iff];intro b hb
 rcases(Jq hb).2 with h|h
 ·exfalso;unfold ioB at hb;rw[List.mem_append,List.mem_append]at hb;have h3:=h.1
  rcases hb with(hb|hb)|hb
  ·obtain⟨i,_,rfl⟩:=List.mem_map.1 hb;cases h3
  ·obtain⟨i,_,rfl⟩:=List.mem_map.1 hb;cases h3
  obtain⟨i,_,hb⟩:=List.mem_flatMap.1 hb
  split at hb
  ·rw[List.mem_singleton.1 hb]at h3;cases h3
  simp at hb
 rw[h.2.1];rfl
theorem Mv(l:aU)(U:List Int):∀n:Nat,(kZ l U n).flatMap (fun e=>if 0<=e.ff then[e.ff]else[])=(List.range n).flatMap fun(i:Nat)=>if(l.seqs[i]?.getD Sq.zero).kind=0 then[(i:Int)]else[]
 | 0=>rfl
 | n+1=>by
  rw[kZ,List.range_succ,List.flatMap_append,List.flatMap_singleton,←Mv l U n]
  split
  ·rw[List.flatMap_append,List.flatMap_singleton];simp[elF]
  rw[List.append_nil]
theorem EU(l:aU)(U:List Int):∀n:Nat,(kZ l U n).flatMap (fun e=>if 0<=e.lut then[e.lut]else[])=jA l U n
 | 0=>rfl
 | n+1=>by
  rw[kZ,jA];by_cases h:(l.seqs[n]?.getD Sq.zero).kind=0
  ·rw[if_pos h,List.flatMap_append,EU l U n,List.flatMap_singleton];unfold elF;by_cases hf:ffT l U n
   ·have:=hf.1;simp[h,hf,this]
   simp[h,hf]
  rw[if_neg h,if_neg (fun g=>h g.1),EU l U n]
theorem EW(l:aU)(U:List Int):∀k:Nat,(kJ l U k).flatMap (fun e=>if 0<=e.ff then[e.ff]else[])=(kZ l U l.seqs.length).flatMap fun e=>if 0<=e.ff then[e.ff]else[]
 | 0=>rfl
 | k+1=>by
  rw[kJ]
  split
  ·exact EW l U k
  rw[List.flatMap_append,EW l U k,List.flatMap_singleton];simp
theorem Aa(l:aU)(U:List Int)(m:Nat):∀k:Nat,cnt ((kJ l U k).flatMap fun e=>if 0<=e.lut then[e.lut]else[]) (m:Int)=cnt (jA l U l.seqs.length) (m:Int)+if m<k/\(m:Int)∉jA l U l.seqs.length then 1 else 0
 | 0=>by rw[kJ,EU,if_neg (by omega)];rfl
 | k+1=>by
  rw[kJ];by_cases h:(k:Int)∈jA l U l.seqs.length
  ·rw[if_pos h,Aa l U m k]
   congr 1
   have:(m<k+1/\(m:Int)∉jA l U l.seqs.length)=(m<k/\(m:Int)∉jA l U l.seqs.length):=by
    apply propext
    constructor
    ·rintro⟨h1,h2⟩;refine⟨?_,h2⟩;have:m≠k:=fun e=>h2 (e ▸ h);omega
    rintro⟨h1,h2⟩;exact⟨by omega,h2⟩
   simp only[this]
  have g:(if 0<=(⟨(k:Int),-1⟩:LeT).lut then[(⟨(k:Int),-1⟩:LeT).lut]else[])=[(k:Int)]:=if_pos (Int.natCast_nonneg k);rw[if_neg h,List.flatMap_append,dX,Aa l U m k,List.flatMap_singleton,g,AZ,show cnt [] (m:Int)=0 from rfl];by_cases e:m=k
  ·subst e;rw[if_neg (by omega),if_pos rfl,if_pos ⟨by omega,h⟩]
  rw[if_neg (by omega:¬(k:Int)=(m:Int))];have:(m<k+1/\(m:Int)∉jA l U l.seqs.length)=(m<k/\(m:Int)∉jA l U l.seqs.length):=by apply propext;constructor <;> rintro⟨h1,h2⟩ <;> exact⟨by omega,h2⟩
  simp only[this];omega
theorem Hf{l:aU}(hn:bJ l)(U:List Int)(m:Int):∀i:Nat,i<=l.seqs.length→cnt (jA l U i) m<=cnt ((l.seqs.take i).flatMap Sq.ins) ((l.first:Int)+m)
 | 0,_=>by simp[jA,cnt]
 | i+1,hi=>by
  have ih:=Hf hn U m i (by omega);rw[←vW (by omega:i<l.seqs.length),dX,jA]
  split
  ·rw[dX,AZ,show cnt [] m=0 from rfl];by_cases e:ffK l i=m
   ·rw[if_pos e]
    have h1:0<cnt (l.seqs[i]?.getD Sq.zero).ins ((l.first:Int)+m):=by
     rw[ES];have h2:=(wN hn (by omega:i<l.seqs.length)).2.2;have h3:ql l i=(l.first:Int)+m:=by unfold ffK at e;omega
     rw[←h3];unfold ql;generalize (l.seqs[i]?.getD Sq.zero).ins=xs at *;rw[List.getElem?_eq_getElem (show 0<xs.length by omega)];exact List.getElem_mem _
    omega
   rw[if_neg e];omega
  omega
theorem Ni{l:aU}(hn:bJ l){m:Nat}(h:(m:Int)∈jA l (aK l.count (fw l)) l.seqs.length):cnt (jA l (aK l.count (fw l)) l.seqs.length) (m:Int)=1:=by
 have h1:=Hf hn (aK l.count (fw l)) (m:Int) _ (Nat.le_refl _);rw[List.take_of_length_le (Nat.le_refl _)]at h1;have h0:=ES.2 h
 have h2:∀i:Nat,i<=l.seqs.length→(m:Int)∈jA l (aK l.count (fw l)) i→DT l ((l.first:Int)+(m:Int))=1:=by
  intro i
  induction i with
  | zero=>intro _ h;simp[jA]at h
  | succ i ih =>
   intro hi h;rw[jA]at h
   split at h
   ·rename_i hk
    rcases List.mem_append.1 h with h|h
    ·exact ih (by omega) h
    have e:=List.mem_singleton.1 h;obtain⟨b0,j,_⟩:=wN hn (by omega:i<l.seqs.length);have g:=hk.2.2;rw[jZ _ (by omega)]at g;have e1:(((ql l i).toNat:Nat):Int)=(l.first:Int)+(m:Int):=by unfold ffK at e;omega
    rw[e1]at g;rw[Ah];omega
   exact ih (by omega) h
 have h3:=h2 _ (Nat.le_refl _) h;unfold DT at h3;omega
theorem uR{l:aU}(hn:bJ l)(h:(fM l).2=true):uE l (fM l).1:=by
 unfold fM at h ⊢
 split at h
 ·rename_i q;rw[if_pos q];have j:(els l).length<=(els l).length:=Nat.le_refl _;have g:∀k:Int,k≠3→bH k (mI l)=bH k (ioB l):=fun k hk=>by unfold mI;rw[kg,ET hk,List.append_nil]
  refine⟨hn,q,fun b hb=>?_,fun k hk=>?_,fun k hk=>?_,fun k hk=>?_,fun k hk=>?_⟩
  ·rcases List.mem_append.1 hb with hb|hb
   ·exact Jq hb
   exact xX hn (Dy hn) b hb
  ·rw[g 0 (by decide)];unfold ioB;rw[kg,kg,oQ,oQ,vV,if_pos rfl,if_neg (by decide),if_neg (by decide),List.append_nil,List.append_nil];exact Cc hk
  ·rw[g 1 (by decide)];unfold ioB;rw[kg,kg,oQ,oQ,vV,if_neg (by decide),if_pos rfl,if_neg (by decide),List.append_nil,List.nil_append];exact Cc hk
  ·rw[Ce,g 2 (by decide)];unfold mI;rw[Jr,Mq,List.nil_append,uQ l _ _ j];unfold ioB els;rw[kg,kg,oQ,oQ,vV,if_neg (by decide),if_neg (by decide),if_pos rfl,List.nil_append,List.nil_append,EW,Mv,r9,r9]
   rcases(hn.seqs k hk).1 with h1|h1
   ·rw[if_neg (by omega),if_pos ⟨hk,h1.1⟩]
   rw[if_pos ⟨hk,h1.1⟩,if_neg (by omega)]
  have h1:jF (mI l)=unE (fun e=>if 0<=e.lut then[e.lut]else[]) (mI l):=rfl;rw[h1];unfold mI;rw[Jr,Mq,List.nil_append,uQ l _ _ j];unfold els;rw[Aa];by_cases h2:(k:Int)∈jA l (aK l.count (fw l)) l.seqs.length
  ·rw[Ni hn h2,if_neg (fun h=>h.2 h2)]
  rw[if_pos ⟨hk,h2⟩]
  have h3:cnt (jA l (aK l.count (fw l)) l.seqs.length) (k:Int)=0:=by
   have:=fun h=>h2 (ES.1 (Nat.pos_of_ne_zero h));exact Decidable.not_not.1 this
  rw[h3]
 cases h
def Lay.zero:Lay:=⟨⟨0,[],[],[]⟩,[],[],[],[]⟩
def kdD(l:aU):List Int:=(fM l).1.map Blk.kind
def csD(l:aU):List Cn:=kR l (fM l).1
open Classical in
noncomputable def impD (l:aU) (d:Dev) (sd mv:Int):Lay×Int :=
 if ¬bJ l∨bQ d=false∨inR mv 0 200=false then(Lay.zero,0)
 else if(fM l).2=false then(Lay.zero,4)
 else match iniR d (kdD l) (csD l)with
  | none=>(Lay.zero,5)
  | some p=>if(routeF d (qM d (kdD l) (csD l) p sd mv.toNat) (csD l)).2=false then(Lay.zero,6)
   else(⟨l,(fM l).1,csD l,qM d (kdD l) (csD l) p sd mv.toNat,(routeF d (qM d (kdD l) (csD l) p sd mv.toNat) (csD l)).1⟩,1)
theorem Ab{l:aU}:∀{n:Nat} {es:List LeT} {b:Blk},b∈eY l n es→b.kind=3/\b.les.length<=2
 | 0,_,_,h=>by simp[eY]at h
 | n+1,[],_,h=>by simp[eY]at h
 | n+1,e::es,b,h=>by
  rw[eY]at h
  split at h <;> rcases List.mem_cons.1 h with rfl|h
  ·exact⟨rfl,Nat.le_refl _⟩
  ·exact Ab h
  ·exact⟨rfl,by simp⟩
  exact Ab h
theorem M0{l:aU}{b:Blk}(h:b∈mI l):(0<=b.kind/\b.kind<=3)/\b.les.length<=2:=by
 unfold mI ioB at h;rw[List.mem_append,List.mem_append,List.mem_append]at h
 rcases h with((h|h)|h)|h
 ·obtain⟨i,_,rfl⟩:=List.mem_map.1 h;simp
 ·obtain⟨i,_,rfl⟩:=List.mem_map.1 h;simp
 ·obtain⟨i,_,h⟩:=List.mem_flatMap.1 h
  split at h
  ·rw[List.mem_singleton.1 h];simp
  simp at h
 have:=Ab h;omega
theorem Ac{l:aU}{b:Blk}(h:b∈(fM l).1):(0<=b.kind/\b.kind<=3)/\b.les.length<=2:=by
 unfold fM at h
 split at h
 ·exact M0 h
 simp at h
theorem uS(l:aU):(fM l).1.length<=64:=by
 unfold fM
 split
 ·assumption
 simp
theorem Hg{l:aU}{bs:List Blk}(hp:uE l bs):∀c∈kR l bs,c.sinks.length<=320:=by
 intro c hc;unfold kR kX iV at hc;obtain⟨i,_,hc⟩:=List.mem_flatMap.1 hc;obtain⟨p,_,hc⟩:=List.mem_flatMap.1 hc;unfold xm at hc
 split at hc
 ·simp at hc
 rw[List.mem_singleton.1 hc];have h1:=Kt hp.net hp.fit ((j4 l (bs[i]?.getD Blk.zero))[p]?.getD 0) (bs.map (iU l)).length;have h2:=hp.len;rw[List.length_map]at h1 ⊢;simp only;omega
theorem xY{l:aU}(hn:bJ l)(hp:(fM l).2=true):∀c∈csD l,c.sinks.length<=320:=Hg (uR hn hp)
theorem Nj{l:aU}(hn:bJ l)(hp:(fM l).2=true):(csD l).length<=128:=by
 have h1:=qL (uR hn hp).fit (Nat.le_refl _);have h2:=uS l;unfold csD kR;omega
theorem Hl{N m t:Nat}{G:List (List Int)}{src:Nat→Int}{snk:Nat→List Int}{H:List Int}{rs:List Rou}(z:G.length=N)(g:∀x:Nat,x<N→∀y∈G[x]?.getD [],0<=y/\y<(N:Int))(B:N<=828)(hH:vU N H t)(hr:sN N m rs)
  (hs:∀k:Nat,k<m→(0<=src k/\src k<(N:Int))/\∀s∈snk k,0<=s/\s<(N:Int)):∀{k:Nat} {j:List Rou},k<=m→rtIn N G src snk H t rs k=some j→sN N m j
 | 0,j,_,h=>by
  rw[rtIn]at h;injection h with h
  rw[←h]
  exact hr
 | k+1,j,hk,h=>by
  rw[rtIn]at h;obtain⟨u,h0,h⟩:=Option.bind_eq_some_iff.1 h;obtain⟨r,hg,rfl⟩:=Option.map_eq_some_iff.1 h;have h1:=Hl z g B hH hr hs (by omega) h0;have h2:=hs k (by omega);have q:=JG (U:=gq N (skp u k)) (p:=5*(t:Int)) z g B hH (fun x=>(vv (N:=N) (m:=(skp u k).length) (Nat.le_refl _) x).1) (by omega);exact h1.set (AP q h2.1 h2.2 (Nat.le_refl _) hg)
theorem Hm{N m:Nat}{G:List (List Int)}{src:Nat→Int}{snk:Nat→List Int}(j:G.length=N)(g:∀x:Nat,x<N→∀y∈G[x]?.getD [],0<=y/\y<(N:Int))(q:N<=828)(hm:m<=100)
  (hs:∀k:Nat,k<m→(0<=src k/\src k<(N:Int))/\∀s∈snk k,0<=s/\s<(N:Int)):∀{f t:Nat} {rs:List Rou} {H:List Int},vU N H t→sN N m rs→(rtGo N G src snk m f t rs H).2=true→sN N m (rtGo N G src snk m f t rs H).1
 | 0,_,_,_,_,_,h=>by rw[rtGo]at h;cases h
 | f+1,t,rs,H,hH,hr,h=>by
  rw[rtGo]at h ⊢
  cases hi:rtIn N G src snk H t rs m with
  | none=>rw[hi]at h;cases h
  | some u =>
   have h1:=Hl j g q hH hr hs (Nat.le_refl _) hi;rw[hi]at h;simp only at h ⊢
   split at h
   ·rename_i ho;rw[if_pos ho];exact Hm j g q hm hs (hH.step h1.len hm N) h1 h
   rename_i ho;rw[if_neg ho];exact h1
theorem JM{d:Dev}{place:List Int}{cs:List Cn}(h:(routeF d place cs).2=true):(routeF d place cs).1.length<=100/\∀r∈(routeF d place cs).1,r.nodes.length<=828/\r.from_.length<=828:=by
 by_cases hc:bQ d=true/\dW (place.length:Int) cs/\qC d place cs
 ·obtain⟨hd,h2,h3⟩:=hc;rw[vE hd h2 h3]at h ⊢;obtain⟨n1,n2,_⟩:=zk hd;have hg:=DV hd
  have hr:=Hm hg.len hg.gin n2 h2.len (fun k hk=>by
   obtain⟨g,z⟩:=h3.at_ hk;have q:=vF g;rw[n1]at q;refine⟨⟨g,q⟩,fun s hs=>?_⟩;have u:=rH z s hs;rw[n1]at u
   exact u) (vU.start _) (sN.start _ _) h
  refine⟨by rw[hr.len];exact h2.len,fun r hm=>?_⟩
  rcases hr.inn r hm with rfl|j
  ·exact⟨by simp[Rou.zero],by simp[Rou.zero]⟩
  have B:=j.le;have D:=j.same;omega
 rw[jr hc]at h
 cases h
theorem xZ{α:Type}{cells:α→List Cel}{m:Nat}:∀{xs:List α},(∀x∈xs,dI (cells x)<=m)→dI (xs.flatMap cells)<=xs.length*m
 | [],_=>by rw[List.flatMap_nil,dG];omega
 | x::xs,h=>by
  have h1:=xZ (xs:=xs) (fun y g=>h y (by simp[g]));have h2:=h x (by simp);rw[List.flatMap_cons,jY,List.length_cons,Nat.succ_mul];omega
theorem Ad{α:Type}{cells:α→List Cel}{e s m n:Nat}{xs:List α}(hf:∀x,(cells x).length=s)(hs:0<s)(hn:xs.length<=n)(h:∀x∈xs,dI (cells x)<=m):szC (.row e s (xs.flatMap cells))<=n+n*m:=by
 rw[d9 hf hs];have h1:=xZ h;have h2:=Nat.mul_le_mul_right m hn;omega
theorem Ho{α:Type}{f g:α→Int}(xs:List α):dI (xs.flatMap fun x=>[Cel.int (f x),.int (g x)])=0:=by
 have:=xZ (cells:=fun x=>[Cel.int (f x),.int (g x)]) (m:=0) (xs:=xs) (fun x _=>by simp only[dD,dG,gJ];omega);omega
theorem Nk{l:aU}{d:Dev}{sd mv:Int}(hl:dI l.cells<=1048576):dI (impD l d sd mv).1.cells<=4194304:=by
 have j:dI Lay.zero.cells<=4194304:=by decide +kernel
 unfold impD
 split
 ·exact j
 rename_i g
 split
 ·exact j
 rename_i u;have hp2:(fM l).2=true:=by simpa using u
 have hn:bJ l:=Classical.byContradiction fun h=>g (.inl h)
 split
 ·exact j
 rename_i p hp
 split
 ·exact j
 rename_i hr;have q:(routeF d (qM d (kdD l) (csD l) p sd mv.toNat) (csD l)).2=true:=by simpa using hr
 obtain⟨z,B⟩:=JM q
 have I:szC (aa (fM l).1)<=64+64*2:=Ad Blk.cells_length (by omega) (uS l) fun b hb=>by
  have h1:=(Ac hb).2;have h2:szC (ay b.les)=b.les.length:=by unfold ay;rw[d9 LeT.cells_length (by omega)];show _+dI (b.les.flatMap fun x=>[Cel.int x.lut,.int x.ff])=_;rw[Ho];rfl
  simp only[Blk.cells,dD,dG,gJ,h2];omega
 have G:szC (bL (csD l))<=128+128*320:=Ad Cn.cells_length (by omega) (Nj hn hp2) fun c hc=>by
  have h1:=xY hn hp2 c hc;have h2:szC (aZ c.sinks)=c.sinks.length:=by unfold aZ;rw[d9 aL.cells_length (by omega)];show _+dI (c.sinks.flatMap fun x=>[Cel.int x.block,.int x.pin])=_;rw[Ho];rfl
  simp only[Cn.cells,dD,dG,gJ,h2];omega
 have H:szC (bM (routeF d (qM d (kdD l) (csD l) p sd mv.toNat) (csD l)).1)<=100+100*1656:=Ad Rou.cells_length (by omega) z fun r hm=>by
  have h1:=B r hm;simp only[Rou.cells,dD,dG,pE];omega
 have D:szC (aI (qM d (kdD l) (csD l) p sd mv.toNat))<=64:=by
  have hd:bQ d=true:=by
   cases h:bQ d with
   | true=>rfl
   | false=>exact absurd (.inr (.inl h)) g
  have h1:=LC (zK hd hp).2 (cs:=csD l) sd mv.toNat;have h2:=h1.same;have h3:=h1.len;rw[pE];omega
 unfold Lay.cells;simp only[jY,dD,dG];omega
theorem qp{l:aU}{d:Dev}{sd mv:Int}(h:¬bJ l∨bQ d=false∨inR mv 0 200=false):impD l d sd mv=(Lay.zero,0):=by unfold impD;rw[if_pos h]
section
variable {l:aU} {d:Dev} {sd mv:Int} (hf:bJ l) (hd:bQ d=true) (hm:inR mv 0 200=true)
include hf hd hm
theorem EX:¬(¬bJ l∨bQ d=false∨inR mv 0 200=false):=by
 rintro(h|h|h)
 ·exact h hf
 ·rw[hd]at h;cases h
 rw[hm]at h;cases h
theorem Cf(hp:(fM l).2=false):impD l d sd mv=(Lay.zero,4):=by unfold impD;rw[if_neg (EX hf hd hm),if_pos hp]
variable (hp:(fM l).2=true)
include hp
theorem Ae(hi:iniR d (kdD l) (csD l)=none):impD l d sd mv=(Lay.zero,5):=by unfold impD;rw[if_neg (EX hf hd hm),if_neg (by rw[hp];simp),hi]
theorem Af{p:List Int}(hi:iniR d (kdD l) (csD l)=some p)(hr:(routeF d (qM d (kdD l) (csD l) p sd mv.toNat) (csD l)).2=false):impD l d sd mv=(Lay.zero,6):=by
 unfold impD;rw[if_neg (EX hf hd hm),if_neg (by rw[hp];simp),hi];simp only;rw[if_pos hr]
theorem Js{p:List Int}{rs:List Rou}(hi:iniR d (kdD l) (csD l)=some p)(hr:routeF d (qM d (kdD l) (csD l) p sd mv.toNat) (csD l)=(rs,true)):impD l d sd mv=(⟨l,(fM l).1,csD l,qM d (kdD l) (csD l) p sd mv.toNat,rs⟩,1):=by
 unfold impD;rw[if_neg (EX hf hd hm),if_neg (by rw[hp];simp),hi];simp only;rw[if_neg (by rw[hr];simp),hr]
end
theorem Hq{w:World}:∀(g:List (Cel×Value)) {F:List Nat},iW w (g.map fun p => .cel p.1 p.2) F→dh w (g.map Prod.fst) (g.map Prod.snd) F
 | [],F,h=>dH.2 ⟨rfl,h⟩
 | p::g,F,h=>by
  obtain⟨j,F2,rfl,h1,h2⟩:=h;exact bU.2 ⟨p.2,_,j,F2,rfl,rfl,h1,Hq g h2⟩
theorem aD.fuseL{W w:World}(g:List (Cel×Value))(h:aD W w (g.map fun p => .cel p.1 p.2)):aD W w [.cels (g.map Prod.fst) (g.map Prod.snd)]:=by
 obtain⟨h1,F,h2,h3,j⟩:=h;exact⟨h1,F,⟨F,[],(List.append_nil _).symm,Hq g h2,rfl⟩,h3,j⟩
theorem aD.consI{W w:World}{g:List Pc}(h:aD W w g)(x:Int):aD W w (.cel (.int x) (.int .i64 x)::g) :=
 h.cons (Below.refl _ _) (G:=[]) (show dJ w (.int x) (.int .i64 x) [] from dZ.2 ⟨rfl,rfl⟩) (by simp) (by simp)
abbrev OJ(x:Lay)(q g B D j u z:Value):Pc := .cels (Og x) [.int .i64 x.net.inputs,q,g,B,D,j,u,z]
theorem aD.lay{W w:World}(x:Lay){q g B D j u z:Value}(h:aD W w [.cel (aY x.net.seqs) q,.cel (aj x.net.luts) g,.cel (aI x.net.outs) B,.cel (aa x.blocks) D,.cel (bL x.conns) j,.cel (aI x.place) u,.cel (bM x.routes) z]):aD W w [OJ x q g B D j u z] :=
 aD.fuseL [(.int x.net.inputs,.int .i64 x.net.inputs),(aY x.net.seqs,q),(aj x.net.luts,g),(aI x.net.outs,B),(aa x.blocks,D),(bL x.conns,j),(aI x.place,u),(bM x.routes,z)] (h.consI x.net.inputs)
theorem aD.lay0{W w:World}(h:Below W.heap.size W w):aD W w [OJ Lay.zero (.slice none 0 0) (.slice none 0 0) (.slice none 0 0) (.slice none 0 0) (.slice none 0 0) (.slice none 0 0) (.slice none 0 0)] :=
 aD.lay Lay.zero ((((((((aD.nil h).pushNil 91 3).pushNil 96 2).pushNil 3 1).pushNil 89 3).pushNil 158 4).pushNil 3 1).pushNil 114 2)
structure LRs where
 (A1 A2 A3 A4 A5 A6 A7:Oh) (n1 n2 n3 n4 n5 n6 n7 c1 c2 c3 c4 c5 c6 c7:Nat)
abbrev Kj(x:Lay)(R:LRs):Pc:=OJ x (.slice R.A1 R.n1 R.c1) (.slice R.A2 R.n2 R.c2) (.slice R.A3 R.n3 R.c3) (.slice R.A4 R.n4 R.c4) (.slice R.A5 R.n5 R.c5) (.slice R.A6 R.n6 R.c6) (.slice R.A7 R.n7 R.c7)
abbrev yw(w w':World)(e:Ending)(x:Lay)(g:Int):Prop:=∃R:LRs,e=.returned (.tuple #[.agg #[.int .i64 x.net.inputs,.slice R.A1 R.n1 R.c1,.slice R.A2 R.n2 R.c2,.slice R.A3 R.n3 R.c3,.slice R.A4 R.n4 R.c4,.slice R.A5 R.n5 R.c5,.slice R.A6 R.n6 R.c6,.slice R.A7 R.n7 R.c7],.int .i64 g])/\aD w w' [Kj x R]
theorem aD.put8{W w:World}{q:List Pc}(h:aD W w q)(j:Nat){g:Nat}{cs:Array Value}{t:TypeId}(hj:q[j]?=some (.blk g cs t))(z G B H I D u J:Value) :
  aD W ((((((((w.setCell ⟨g,0,none⟩ z).setCell ⟨g,1,none⟩ G).setCell ⟨g,2,none⟩ B).setCell ⟨g,3,none⟩ H).setCell ⟨g,4,none⟩ I).setCell ⟨g,5,none⟩ D).setCell ⟨g,6,none⟩ u).setCell ⟨g,7,none⟩ J)
   (q.set j (.blk g ((((((((cs.setIfInBounds 0 z).setIfInBounds 1 G).setIfInBounds 2 B).setIfInBounds 3 H).setIfInBounds 4 I).setIfInBounds 5 D).setIfInBounds 6 u).setIfInBounds 7 J) t)):=by
 have hs:∀{cs:Array Value},(q.set j (.blk g cs t))[j]?=some (.blk g cs t):=List.getElem?_set_self (List.getElem?_eq_some_iff.1 hj).1;have K:=(((((((h.put j hj 0 z).put j hs 1 G).put j (by rw[List.set_set];exact hs) 2 B).put j (by rw[List.set_set,List.set_set];exact hs) 3 H).put j (by rw[List.set_set,List.set_set,List.set_set];exact hs) 4 I).put j (by rw[List.set_set,List.set_set,List.set_set,List.set_set];exact hs) 5 D).put j (by rw[List.set_set,List.set_set,List.set_set,List.set_set,List.set_set];exact hs) 6 u).put j (by rw[List.set_set,List.set_set,List.set_set,List.set_set,List.set_set,List.set_set];exact hs) 7 J
 simpa only[List.set_set]using K
abbrev zL:Array Value:=#[.int .i64 0,.slice none 0 0,.slice none 0 0,.slice none 0 0,.slice none 0 0,.slice none 0 0,.slice none 0 0,.slice none 0 0]
abbrev w8(w:World)(g:Nat):World:=(((((((((w.setCell ⟨g,0,none⟩ (.int .i64 0)).setCell ⟨g,1,none⟩ (.slice none 0 0)).setCell ⟨g,2,none⟩ (.slice none 0 0)).setCell ⟨g,3,none⟩ (.slice none 0 0)).setCell ⟨g,4,none⟩ (.slice none 0 0)).setCell ⟨g,5,none⟩ (.slice none 0 0)).setCell ⟨g,6,none⟩ (.slice none 0 0)).setCell ⟨g,7,none⟩ (.slice none 0 0)))
theorem sM{W w:World}{j:List Pc}{g:Nat}{t:TypeId}(h:aD W w j)(hj:j[2]?=some (.blk g zL t)):(w8 w g).heap[g]?=some (.cells zL t (0,0))/\Below W.heap.size W (w8 w g) :=
 have k:=h.put8 2 hj (.int .i64 0) (.slice none 0 0) (.slice none 0 0) (.slice none 0 0) (.slice none 0 0) (.slice none 0 0) (.slice none 0 0) (.slice none 0 0)
 ⟨(k.blk 2 (List.getElem?_set_self (List.getElem?_eq_some_iff.1 hj).1)).1,k.bel⟩
theorem pz{w:World}{g:Nat}{a b c d e f i j:Value}{t:TypeId}(h:w.heap[g]?=some (.cells #[a,b,c,d,e,f,i,j] t (0,0))):w.cell? ⟨g,0,none⟩=some a/\w.cell? ⟨g,1,none⟩=some b/\w.cell? ⟨g,2,none⟩=some c/\w.cell? ⟨g,3,none⟩=some d/\w.cell? ⟨g,4,none⟩=some e/\w.cell? ⟨g,5,none⟩=some f/\w.cell? ⟨g,6,none⟩=some i/\w.cell? ⟨g,7,none⟩=some j/\(∀k,w.frozen? ⟨g,k,none⟩=false)/\g<w.heap.size :=
 ⟨aC (k:=0) h rfl,aC (k:=1) h rfl,aC (k:=2) h rfl,aC (k:=3) h rfl,aC (k:=4) h rfl,aC (k:=5) h rfl,aC (k:=6) h rfl,aC (k:=7) h rfl,aN h,aH h⟩
abbrev zR:LRs:=⟨none,none,none,none,none,none,none,0,0,0,0,0,0,0,0,0,0,0,0,0,0⟩
theorem BM(l:aU)(d:Dev)(u mv:Int)(SA LA OA:Oh)(sn sc ln lc on oc:Nat)(w:World)(h:fA w l SA LA OA sn sc ln lc on oc) :
  Calls Tryz.prog 27 #[ig l SA LA OA sn sc ln lc on oc,.agg (dv d),.int .i64 u,.int .i64 mv] w fun e w'=>yw w w' e (impD l d u mv).1 (impD l d u mv).2:=by
 have HN:=Hd h;have h0:=(((aD.refl w).pushBlk #[.int .i64 l.inputs,.slice SA sn sc,.slice LA ln lc,.slice OA on oc] 41).pushBlk (dv d) 36).pushBlk #[.int .i64 0,.slice none 0 0,.slice none 0 0,.slice none 0 0,.slice none 0 0,.slice none 0 0,.slice none 0 0,.slice none 0 0] 46;simp only[World.size_alloc]at h0;clear h;go_enter Tryz.func27,Tryz.ntmps27;go_upto_region 1 with fail;obtain⟨gN,Q⟩:∃g,w.heap.size=g:=⟨_,rfl⟩;obtain⟨gD,R⟩:∃g,gN+1=g:=⟨_,rfl⟩;obtain⟨gL,U⟩:∃g,gD+1=g:=⟨_,rfl⟩;rw[Q,R,U]at h0
 (try rw[Q])
 (try rw[R])
 (try rw[U])
 clear Q R U;have j:=Hd h0;clear h0;generalize ((w.alloc (.cells #[.int .i64 l.inputs,.slice SA sn sc,.slice LA ln lc,.slice OA on oc] 41)).alloc (.cells (dv d) 36)).alloc (.cells #[.int .i64 0,.slice none 0 0,.slice none 0 0,.slice none 0 0,.slice none 0 0,.slice none 0 0,.slice none 0 0,.slice none 0 0] 46)=w0 at *;obtain⟨J,n1,n2,n3,K⟩:=bA (j.1.blk 0 rfl).1;by_cases hf:bJ l;rotate_left
 ·have q:=Hd (qp (d:=d) (sd:=u) (mv:=mv) (.inl hf));have aF:=Hd hf;clear hf;go_wp2_with fail;refine(nz l SA LA OA sn sc ln lc on oc _ (HN.1.below j.1.bel)).mono ?_;rw[dU aF.1];rintro _ w1 ⟨rfl,b1⟩;replace j:=Hd (j.1.below b1);clear b1 J n1 n2 n3 K;obtain⟨e0,e1,e2,e3,e4,e5,e6,e7,y2,lr⟩:=pz (j.1.blk 2 rfl).1;have z:=Hd (sM j.1 rfl);go_wp2_with fail;rw[q.1];exact bodyPost_ret (v := .tuple #[.agg zL,.int .i64 0]) (dE Tryz.results27 rfl z.1.1 Tryz.underlying46 (by kernel_rfl)) rfl ⟨zR,rfl,aD.lay0 z.1.2⟩
 have I:=Hd hf;obtain⟨aJ,aQ,aK⟩:=HN.1.lens;clear hf aJ aQ aK;go_wp2_with fail;refine(nz l SA LA OA sn sc ln lc on oc _ (HN.1.below j.1.bel)).mono ?_;rw[bZ I.1];rintro _ w1 ⟨rfl,b1⟩;replace j:=Hd (j.1.below b1);clear b1 J n1 n2 n3 K;obtain⟨H,D,d2,d3,G⟩:=bA (j.1.blk 1 rfl).1
 cases hd:bQ d with
 | false =>
  have q:=Hd (qp (l:=l) (sd:=u) (mv:=mv) (.inr (.inl hd)));have W:=Hd (fun v=>(by have h:=eG d v;rwa[hd]at h:Calls Tryz.prog 92 #[.agg (dv d)] v fun e w'=>e=.returned (.bool false)/\Below v.heap.size v w'));clear hd;go_wp2_with fail;refine(W.1 _).mono ?_;rintro _ w2 ⟨rfl,b2⟩;replace j:=Hd (j.1.below b2);clear b2 H D d2 d3 G;obtain⟨e0,e1,e2,e3,e4,e5,e6,e7,y2,lr⟩:=pz (j.1.blk 2 rfl).1;have z:=Hd (sM j.1 rfl);go_wp2_with fail;rw[q.1]
  exact bodyPost_ret (v := .tuple #[.agg zL,.int .i64 0]) (dE Tryz.results27 rfl z.1.1 Tryz.underlying46 (by kernel_rfl)) rfl ⟨zR,rfl,aD.lay0 z.1.2⟩
 | true =>
  have HD:=Hd hd;have W:=Hd (fun v=>(by have h:=eG d v;rwa[hd]at h:Calls Tryz.prog 92 #[.agg (dv d)] v fun e w'=>e=.returned (.bool true)/\Below v.heap.size v w'));clear hd;go_wp2_with fail;refine(W.1 _).mono ?_;rintro _ w2 ⟨rfl,b2⟩;replace j:=Hd (j.1.below b2);clear b2 H D d2 d3 G
  cases hm:inR mv 0 200 with
  | false =>
   have q:=Hd (qp (l:=l) (d:=d) (sd:=u) (.inr (.inr hm)));have Y:=Hd (fun v=>(by have h:=aM mv 0 200 v;rwa[hm]at h:Calls Tryz.prog 93 #[.int .i64 mv,.int .i64 0,.int .i64 200] v fun e w'=>e=.returned (.bool false)/\v=w'));clear hm;go_wp2_with fail;refine(Y.1 _).mono ?_;rintro _ _ ⟨rfl,rfl⟩;obtain⟨e0,e1,e2,e3,e4,e5,e6,e7,y2,lr⟩:=pz (j.1.blk 2 rfl).1;have z:=Hd (sM j.1 rfl);go_wp2_with fail;rw[q.1]
   exact bodyPost_ret (v := .tuple #[.agg zL,.int .i64 0]) (dE Tryz.results27 rfl z.1.1 Tryz.underlying46 (by kernel_rfl)) rfl ⟨zR,rfl,aD.lay0 z.1.2⟩
  | true =>
   have Y:=Hd (fun v=>(by have h:=aM mv 0 200 v;rwa[hm]at h:Calls Tryz.prog 93 #[.int .i64 mv,.int .i64 0,.int .i64 200] v fun e w'=>e=.returned (.bool true)/\v=w'));have HM:=Hd hm;obtain⟨am,aL⟩:=aR.1 hm;obtain⟨M,rfl⟩:∃M:Nat,mv=(M:Int):=⟨mv.toNat,(Int.toNat_of_nonneg am).symm⟩;have hM:M<=200:=by omega
   have aE:Hv (∀k∈kdD l,0<=k/\k<=3):=Hd<|fun k hk=>by
    obtain⟨b,hb,rfl⟩:=List.mem_map.1 hk;exact(Ac hb).1
   clear hm am aL;obtain⟨J,n1,n2,n3,K⟩:=bA (j.1.blk 0 rfl).1;go_wp2_with fail;refine(Y.1 _).mono ?_;rintro _ _ ⟨rfl,rfl⟩;go_wp2_with fail;refine(LQ l SA LA OA sn sc ln lc on oc _ (HN.1.below j.1.bel) I.1).mono ?_;rintro _ w3 ⟨BA,bn,bc,rfl,S3⟩;replace j:=Hd (j.1.join S3);clear S3 J n1 n2 n3 K;have V:=(j.1.rd 3 rfl).blkN;have a3:bn<=64:=by rw[←V];exact uS l
   have aI:=Hd V;clear V
   cases hp:(fM l).2 with
   | false =>
    have q:=Hd (Cf (sd:=u) I.1 HD.1 HM.1 hp);clear hp;obtain⟨e0,e1,e2,e3,e4,e5,e6,e7,y2,lr⟩:=pz (j.1.blk 2 rfl).1;have z:=Hd (sM j.1 rfl);go_wp2_with fail;rw[q.1]
    exact bodyPost_ret (v := .tuple #[.agg zL,.int .i64 4]) (dE Tryz.results27 rfl z.1.1 Tryz.underlying46 (by kernel_rfl)) rfl ⟨zR,rfl,aD.lay0 z.1.2⟩
   | true =>
    have z:=Hd hp;have aT:=Hd (uR I.1 hp);have aw:Hv (∀c∈csD l,c.sinks.length<=1048576):=Hd<|fun c hc=>by have:=xY I.1 hp c hc;omega
    clear hp;obtain⟨J,n1,n2,n3,K⟩:=bA (j.1.blk 0 rfl).1;go_wp2_with fail;refine(Gi l SA LA OA sn sc ln lc on oc (fM l).1 BA bn bc _ (HN.1.below j.1.bel) (j.1.rd 3 rfl) aT.1).mono ?_;rintro _ w4 ⟨CA,cn,cc,rfl,o4,b4⟩;replace j:=Hd (j.1.pushT b4 o4);have aq:kR l (fM l).1=csD l:=rfl;rw[aq]at j;clear o4 b4 J n1 n2 n3 K aq;go_wp2_with fail;refine(FY (fM l).1 BA bn bc _ (j.1.rd 3 rfl) (by omega)).mono ?_;rintro _ w5 ⟨KA,kc,rfl,o5,b5⟩;replace j:=Hd (j.1.pushOwn b5 o5);have ap:(fM l).1.map Blk.kind=kdD l:=rfl;rw[ap]at j;have ax:(kdD l).length=bn:=by rw[←aI.1];exact List.length_map _
    have aO:=Hd ax;clear o5 b5 ap ax;obtain⟨H,D,d2,d3,G⟩:=bA (j.1.blk 1 rfl).1;go_wp2_with fail;refine(wm d (kdD l) (csD l) KA CA bn kc cn cc _ (j.1.ints 5 rfl) (j.1.rd 4 rfl) HD.1 aE.1 aw.1 (by omega)).mono ?_;rintro _ w6 (⟨p,PA,hi,rfl,o6,b6⟩|⟨hi,⟨PA,pn,pc,rfl⟩,b6⟩);rotate_left
    ·have q:=Hd (Ae (sd:=u) I.1 HD.1 HM.1 z.1 hi);replace j:=Hd (j.1.below b6);clear hi b6 H D d2 d3 G;obtain⟨e0,e1,e2,e3,e4,e5,e6,e7,y2,lr⟩:=pz (j.1.blk 2 rfl).1;have z:=Hd (sM j.1 rfl);go_wp2_with fail;rw[q.1];exact bodyPost_ret (v := .tuple #[.agg zL,.int .i64 5]) (dE Tryz.results27 rfl z.1.1 Tryz.underlying46 (by kernel_rfl)) rfl ⟨zR,rfl,aD.lay0 z.1.2⟩
    have HI:=Hd hi;have B:=zK HD.1 hi;have Z:=B.1;rw[aO.1]at Z;obtain⟨aC,aG⟩:=hd2 Z B.2;replace j:=Hd (j.1.pushOwn b6 o6);clear hi B Z o6 b6 H D d2 d3 G;obtain⟨H,D,d2,d3,G⟩:=bA (j.1.blk 1 rfl).1;go_wp2_with fail;refine(IL d (kdD l) p (csD l) KA CA PA bn kc cn cc bn bn u M _ (j.1.ints 5 rfl) (j.1.rd 4 rfl) (j.1.ints 6 rfl) aG.1 aC.1 hM (Nat.le_refl _) (by omega)).mono ?_;rintro _ w7 ⟨QA,qc,rfl,o7,b7⟩;replace j:=Hd (j.1.pushOwn b7 o7);clear o7 b7 H D d2 d3 G;obtain⟨H,D,d2,d3,G⟩:=bA (j.1.blk 1 rfl).1;go_wp2_with fail;refine(EO d (qM d (kdD l) (csD l) p u M) (csD l) QA CA bn qc cn cc _ (j.1.ints 7 rfl) (j.1.rd 4 rfl) (by omega) aw.1).mono ?_;rintro _ w8 (⟨rs,RA,rc,hr,rfl,S8⟩|⟨hr,RA,rc,rfl,S8⟩);rotate_left
    ·have q:=Hd (Af (sd:=u) I.1 HD.1 HM.1 z.1 HI.1 (by rw[Int.toNat_natCast,hr]));replace j:=Hd (j.1.below S8.bel);clear hr S8 H D d2 d3 G;obtain⟨e0,e1,e2,e3,e4,e5,e6,e7,y2,lr⟩:=pz (j.1.blk 2 rfl).1;have z:=Hd (sM j.1 rfl);go_wp2_with fail;rw[q.1];exact bodyPost_ret (v := .tuple #[.agg zL,.int .i64 6]) (dE Tryz.results27 rfl z.1.1 Tryz.underlying46 (by kernel_rfl)) rfl ⟨zR,rfl,aD.lay0 z.1.2⟩
    have q:=Hd (Js (sd:=u) I.1 HD.1 HM.1 z.1 HI.1 (rs:=rs) (by rw[Int.toNat_natCast];exact hr));replace j:=Hd (j.1.join S8);clear hr S8 H D d2 d3 G;obtain⟨J,n1,n2,n3,K⟩:=bA (j.1.blk 0 rfl).1;go_wp2_with fail;refine(ER l SA LA OA sn sc ln lc on oc _ (HN.1.below j.1.bel) I.1).mono ?_;rintro _ w9 ⟨SB,LB,OB,sd,ld,od,rfl,S9⟩;replace j:=Hd (j.1.join S9);rw[Int.toNat_natCast]at q;clear S9 J n1 n2 n3 K;obtain⟨e0,e1,e2,e3,e4,e5,e6,e7,y2,lr⟩:=pz (j.1.blk 2 rfl).1;have z:=Hd (j.1.put8 2 rfl (.int .i64 l.inputs) (.slice SB sn sd) (.slice LB ln ld) (.slice OB on od) (.slice BA bn bc) (.slice CA cn cc) (.slice QA bn qc) (.slice RA cn rc));go_wp2_with fail;rw[q.1];exact bodyPost_ret (v := .tuple #[.agg #[.int .i64 l.inputs,.slice SB sn sd,.slice LB ln ld,.slice OB on od,.slice BA bn bc,.slice CA cn cc,.slice QA bn qc,.slice RA cn rc],.int .i64 1]) (dE Tryz.results27 rfl (z.1.blk 2 rfl).1 Tryz.underlying46 (by kernel_rfl)) rfl ⟨⟨SB,LB,OB,BA,CA,QA,RA,sn,ln,on,bn,cn,bn,cn,sd,ld,od,bc,cc,qc,rc⟩,rfl,aD.lay ⟨l,(fM l).1,csD l,qM d (kdD l) (csD l) p u M,rs⟩ (((z.1.sub (qs:=[_,_,_,_,_,_,_]) (.cons _ (.cons _ (.cons _ (.cons_cons _ (.cons_cons _ (.cons _ (.cons _ (List.Sublist.refl _))))))))).perm (List.perm_append_comm (l₁:=[_,_,_,_]) (l₂:=[_,_,_]))))⟩
end Go.Proofs.YtofihjoanjkdmaaGreat
