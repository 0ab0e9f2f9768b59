/- Reading blocks, connections and routes. -/
import Derived.Test.YtofihjoanjkdmaaGreatLayP2
import Derived.Test.YtofihjoanjkdmaaGreatNetRd
namespace Go.Proofs.YtofihjoanjkdmaaGreat
set_option maxRecDepth 100000
open Go.RowKit
def LeT.cells (e:LeT):List Cel:=[.int e.lut,.int e.ff]
def cZ (es:List LeT):Cel := .row 94 2 (es.flatMap LeT.cells)
def Blk.cells (b:Blk):List Cel:=[.int b.kind,.int b.item,cZ b.les]
def aa (bs:List Blk):Cel := .row 89 3 (bs.flatMap Blk.cells)
def bS.cells (p:bS):List Cel:=[.int p.block,.int p.pin]
def bR (ps:List bS):Cel := .row 100 2 (ps.flatMap bS.cells)
def Cn.cells (c:Cn):List Cel:=[.int c.node,.int c.src.block,.int c.src.pin,bR c.sinks]
def ah (cs:List Cn):Cel := .row 158 4 (cs.flatMap Cn.cells)
def Rou.cells (r:Rou):List Cel:=[aH r.nodes,aH r.from_]
def bH (rs:List Rou):Cel := .row 114 2 (rs.flatMap Rou.cells)
theorem LeT.cells_length (x:LeT):x.cells.length=2:=rfl
theorem Blk.cells_length (x:Blk):x.cells.length=3:=rfl
theorem bS.cells_length (x:bS):x.cells.length=2:=rfl
theorem Cn.cells_length (x:Cn):x.cells.length=4:=rfl
theorem Rou.cells_length (x:Rou):x.cells.length=2:=rfl
theorem xN (xs:List bS) (x:bS):(xs++[x]).flatMap bS.cells=xs.flatMap bS.cells++x.cells:=by simp
theorem AC (xs:List Cn) (x:Cn):(xs++[x]).flatMap Cn.cells=xs.flatMap Cn.cells++x.cells:=by simp
theorem RdC.elem {α:Type} {f:α→List Cel} {s e:Nat} (hf:∀x,(f x).length=s) {w:World} {B n c k:Nat} {A:Option Addr} {xs:List α} {z:α} (h:RdC w B (.row e s (xs.flatMap f)) (.slice A n c)) (hk:k<xs.length) (hs:0<s) :
  ∃b o,A=some ⟨b,o,none⟩/\b<B/\∀(j:Nat) (c:Cel),(f (xs[k]?.getD z))[j]?=some c→∃v,w.cell? ⟨b,o+k * s+j,none⟩=some v/\RdC w B c v:=by
 have hl:=jr hf xs
 have I:k * s+s<=xs.length * s:=by
  have:=Nat.mul_le_mul_right s (show k+1<=xs.length by omega)
  rwa [Nat.succ_mul] at this
 obtain ⟨b,o,rfl,G,hc⟩:=h.cell (by rw [hl];omega)
 have u:=getD_some z hk
 refine ⟨b,o,rfl,G,fun j c hj=>?_⟩
 have g:j<s:=by
  rcases Nat.lt_or_ge j s with h|h
  ·exact h
  rw [List.getElem?_eq_none (by rw [hf];exact h)] at hj
  cases hj
 obtain ⟨H,v,e1,q,D⟩:=hc (k * s+j) (by rw [hl];omega)
 rw [vX hf u g,hj] at e1
 obtain rfl:=Option.some.inj e1
 exact ⟨v,by rw [Nat.add_assoc];exact q,D⟩
theorem RdC.flatN {α:Type} {f:α→List Cel} {s e:Nat} (hf:∀x,(f x).length=s) (hs:0<s) {w:World} {B n c:Nat} {A:Option Addr} {xs:List α} (h:RdC w B (.row e s (xs.flatMap f)) (.slice A n c)):xs.length=n:=by
 have:=RdC.len h
 rw [jr hf] at this
 exact Nat.eq_of_mul_eq_mul_right hs this
theorem RdC.esN {w:World} {B n c:Nat} {A:Option Addr} {xs:List LeT} (h:RdC w B (cZ xs) (.slice A n c)):xs.length=n:=RdC.flatN LeT.cells_length (by omega) h
theorem RdC.blkN {w:World} {B n c:Nat} {A:Option Addr} {xs:List Blk} (h:RdC w B (aa xs) (.slice A n c)):xs.length=n:=RdC.flatN Blk.cells_length (by omega) h
theorem RdC.pinN {w:World} {B n c:Nat} {A:Option Addr} {xs:List bS} (h:RdC w B (bR xs) (.slice A n c)):xs.length=n:=RdC.flatN bS.cells_length (by omega) h
theorem RdC.cnN {w:World} {B n c:Nat} {A:Option Addr} {xs:List Cn} (h:RdC w B (ah xs) (.slice A n c)):xs.length=n:=RdC.flatN Cn.cells_length (by omega) h
theorem RdC.rouN {w:World} {B n c:Nat} {A:Option Addr} {xs:List Rou} (h:RdC w B (bH xs) (.slice A n c)):xs.length=n:=RdC.flatN Rou.cells_length (by omega) h
theorem RdC.es {w:World} {B n c k:Nat} {A:Option Addr} {xs:List LeT} (h:RdC w B (cZ xs) (.slice A n c)) (hk:k<xs.length) :
  ∃b o,A=some ⟨b,o,none⟩/\b<B/\w.cell? ⟨b,o+k * 2,none⟩=some (.int .i64 (xs[k]?.getD LeT.zero).lut)/\w.cell? ⟨b,o+k * 2+1,none⟩=some (.int .i64 (xs[k]?.getD LeT.zero).ff):=by
 obtain ⟨b,o,rfl,D,hc⟩:=RdC.elem (z:=LeT.zero) LeT.cells_length h hk (by omega)
 obtain ⟨H,q,j⟩:=hc 0 _ rfl
 obtain ⟨G,u,g⟩:=hc 1 _ rfl
 rw [jV] at j g
 subst j g
 exact ⟨b,o,rfl,D,q,u⟩
theorem RdC.pin {w:World} {B n c k:Nat} {A:Option Addr} {xs:List bS} (h:RdC w B (bR xs) (.slice A n c)) (hk:k<xs.length) :
  ∃b o,A=some ⟨b,o,none⟩/\b<B/\w.cell? ⟨b,o+k * 2,none⟩=some (.int .i64 (xs[k]?.getD bS.zero).block)/\w.cell? ⟨b,o+k * 2+1,none⟩=some (.int .i64 (xs[k]?.getD bS.zero).pin):=by
 obtain ⟨b,o,rfl,D,hc⟩:=RdC.elem (z:=bS.zero) bS.cells_length h hk (by omega)
 obtain ⟨H,q,j⟩:=hc 0 _ rfl
 obtain ⟨G,u,g⟩:=hc 1 _ rfl
 rw [jV] at j g
 subst j g
 exact ⟨b,o,rfl,D,q,u⟩
theorem RdC.blk {w:World} {B n c k:Nat} {A:Option Addr} {xs:List Blk} (h:RdC w B (aa xs) (.slice A n c)) (hk:k<xs.length) :
  ∃b o S m p,A=some ⟨b,o,none⟩/\b<B/\w.cell? ⟨b,o+k * 3,none⟩=some (.int .i64 (xs[k]?.getD Blk.zero).kind)/\w.cell? ⟨b,o+k * 3+1,none⟩=some (.int .i64 (xs[k]?.getD Blk.zero).item)/\w.cell? ⟨b,o+k * 3+2,none⟩=some (.slice S m p)/\RdC w B (cZ (xs[k]?.getD Blk.zero).les) (.slice S m p):=by
 obtain ⟨b,o,rfl,H,hc⟩:=RdC.elem (z:=Blk.zero) Blk.cells_length h hk (by omega)
 obtain ⟨K,u,q⟩:=hc 0 _ rfl
 obtain ⟨J,G,j⟩:=hc 1 _ rfl
 obtain ⟨I,D,g⟩:=hc 2 _ rfl
 rw [jV] at q j
 subst q j
 obtain ⟨S,m,p,rfl⟩:=eu (e:=94) (s:=2) g
 exact ⟨b,o,S,m,p,rfl,H,u,G,D,g⟩
theorem RdC.cn {w:World} {B n c k:Nat} {A:Option Addr} {xs:List Cn} (h:RdC w B (ah xs) (.slice A n c)) (hk:k<xs.length) :
  ∃b o S m p,A=some ⟨b,o,none⟩/\b<B/\w.cell? ⟨b,o+k * 4,none⟩=some (.int .i64 (xs[k]?.getD Cn.zero).node)/\w.cell? ⟨b,o+k * 4+1,none⟩=some (.int .i64 (xs[k]?.getD Cn.zero).src.block)/\w.cell? ⟨b,o+k * 4+2,none⟩=some (.int .i64 (xs[k]?.getD Cn.zero).src.pin)/\w.cell? ⟨b,o+k * 4+3,none⟩=some (.slice S m p)/\RdC w B (bR (xs[k]?.getD Cn.zero).sinks) (.slice S m p):=by
 obtain ⟨b,o,rfl,J,hc⟩:=RdC.elem (z:=Cn.zero) Cn.cells_length h hk (by omega)
 obtain ⟨U,D,u⟩:=hc 0 _ rfl
 obtain ⟨R,H,j⟩:=hc 1 _ rfl
 obtain ⟨Q,G,g⟩:=hc 2 _ rfl
 obtain ⟨K,I,q⟩:=hc 3 _ rfl
 rw [jV] at u j g
 subst u j g
 obtain ⟨S,m,p,rfl⟩:=eu (e:=100) (s:=2) q
 exact ⟨b,o,S,m,p,rfl,J,D,H,G,I,q⟩
theorem RdC.rou {w:World} {B n c k:Nat} {A:Option Addr} {xs:List Rou} (h:RdC w B (bH xs) (.slice A n c)) (hk:k<xs.length) :
  ∃b o S m p j q g,A=some ⟨b,o,none⟩/\b<B/\w.cell? ⟨b,o+k * 2,none⟩=some (.slice S m p)/\w.cell? ⟨b,o+k * 2+1,none⟩=some (.slice j q g)/\RdC w B (aH (xs[k]?.getD Rou.zero).nodes) (.slice S m p)/\RdC w B (aH (xs[k]?.getD Rou.zero).from_) (.slice j q g):=by
 obtain ⟨b,o,rfl,I,hc⟩:=RdC.elem (z:=Rou.zero) Rou.cells_length h hk (by omega)
 obtain ⟨K,G,D⟩:=hc 0 _ rfl
 obtain ⟨J,H,u⟩:=hc 1 _ rfl
 obtain ⟨S,m,p,rfl⟩:=eu (e:=3) (s:=1) D
 obtain ⟨j,q,g,rfl⟩:=eu (e:=3) (s:=1) u
 exact ⟨b,o,S,m,p,j,q,g,rfl,I,G,H,D,u⟩
end Go.Proofs.YtofihjoanjkdmaaGreat
