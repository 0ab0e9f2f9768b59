/- Reading blocks, connections and routes. -/
import Derived.Test.YtofihjoanjkdmaaGreatLayP2
import Derived.Test.YtofihjoanjkdmaaGreatNetRd
namespace Go.Proofs.YtofihjoanjkdmaaGreat
set_option maxRecDepth 100000
open Go.RowKit
def LeT.cells (e:LeT):List Cel:=[.int e.lut,.int e.ff]
def dF (es:List LeT):Cel := .row 94 2 (es.flatMap LeT.cells)
def Blk.cells (b:Blk):List Cel:=[.int b.kind,.int b.item,dF b.les]
def bE (bs:List Blk):Cel := .row 89 3 (bs.flatMap Blk.cells)
def bQ.cells (p:bQ):List Cel:=[.int p.block,.int p.pin]
def bM (ps:List bQ):Cel := .row 100 2 (ps.flatMap bQ.cells)
def Cn.cells (c:Cn):List Cel:=[.int c.node,.int c.src.block,.int c.src.pin,bM c.sinks]
def bD (cs:List Cn):Cel := .row 158 4 (cs.flatMap Cn.cells)
def Rou.cells (r:Rou):List Cel:=[aJ r.nodes,aJ r.from_]
def bR (rs:List Rou):Cel := .row 114 2 (rs.flatMap Rou.cells)
theorem LeT.cells_length (x:LeT):x.cells.length=2:=rfl
theorem Blk.cells_length (x:Blk):x.cells.length=3:=rfl
theorem bQ.cells_length (x:bQ):x.cells.length=2:=rfl
theorem Cn.cells_length (x:Cn):x.cells.length=4:=rfl
theorem Rou.cells_length (x:Rou):x.cells.length=2:=rfl
theorem rU (xs:List bQ) (x:bQ):(xs++[x]).flatMap bQ.cells=xs.flatMap bQ.cells++x.cells:=by simp
theorem vE (xs:List Cn) (x:Cn):(xs++[x]).flatMap Cn.cells=xs.flatMap Cn.cells++x.cells:=by simp
theorem RdC.elem {α:Type} {f:α→List Cel} {s e:Nat} (hf:∀x,(f x).length=s) {w:World} {B n c k:Nat} {A:Option Addr} {xs:List α} {z:α} (h:RdC w B (.row e s (xs.flatMap f)) (.slice A n c)) (hk:k<xs.length) (hs:0<s) :
  ∃b o,A=some ⟨b,o,none⟩/\b<B/\∀(j:Nat) (c:Cel),(f (xs[k]?.getD z))[j]?=some c→∃v,w.cell? ⟨b,o+k * s+j,none⟩=some v/\RdC w B c v:=by
 have hl:=iZ hf xs
 have hm:k * s+s<=xs.length * s:=by
  have:=Nat.mul_le_mul_right s (show k+1<=xs.length by omega)
  rwa [Nat.succ_mul] at this
 obtain ⟨b,o,rfl,hb,hc⟩:=h.cell (by rw [hl];omega)
 have hx:=getD_some z hk
 refine ⟨b,o,rfl,hb,fun j c hj=>?_⟩
 have hjs:j<s:=by
  rcases Nat.lt_or_ge j s with h|h
  ·exact h
  ·rw [List.getElem?_eq_none (by rw [hf];exact h)] at hj
   cases hj
 obtain ⟨c',v,e1,m1,r1⟩:=hc (k * s+j) (by rw [hl];omega)
 rw [qf hf hx hjs,hj] at e1
 obtain rfl:=Option.some.inj e1
 exact ⟨v,by rw [Nat.add_assoc];exact m1,r1⟩
theorem RdC.flatN {α:Type} {f:α→List Cel} {s e:Nat} (hf:∀x,(f x).length=s) (hs:0<s) {w:World} {B n c:Nat} {A:Option Addr} {xs:List α} (h:RdC w B (.row e s (xs.flatMap f)) (.slice A n c)):xs.length=n:=by
 have:=RdC.len h
 rw [iZ hf] at this
 exact Nat.eq_of_mul_eq_mul_right hs this
theorem RdC.esN {w:World} {B n c:Nat} {A:Option Addr} {xs:List LeT} (h:RdC w B (dF xs) (.slice A n c)):xs.length=n:=RdC.flatN LeT.cells_length (by omega) h
theorem RdC.blkN {w:World} {B n c:Nat} {A:Option Addr} {xs:List Blk} (h:RdC w B (bE xs) (.slice A n c)):xs.length=n:=RdC.flatN Blk.cells_length (by omega) h
theorem RdC.pinN {w:World} {B n c:Nat} {A:Option Addr} {xs:List bQ} (h:RdC w B (bM xs) (.slice A n c)):xs.length=n:=RdC.flatN bQ.cells_length (by omega) h
theorem RdC.cnN {w:World} {B n c:Nat} {A:Option Addr} {xs:List Cn} (h:RdC w B (bD xs) (.slice A n c)):xs.length=n:=RdC.flatN Cn.cells_length (by omega) h
theorem RdC.rouN {w:World} {B n c:Nat} {A:Option Addr} {xs:List Rou} (h:RdC w B (bR xs) (.slice A n c)):xs.length=n:=RdC.flatN Rou.cells_length (by omega) h
theorem RdC.es {w:World} {B n c k:Nat} {A:Option Addr} {xs:List LeT} (h:RdC w B (dF xs) (.slice A n c)) (hk:k<xs.length) :
  ∃b o,A=some ⟨b,o,none⟩/\b<B/\w.cell? ⟨b,o+k * 2,none⟩=some (.int .i64 (xs[k]?.getD LeT.zero).lut)/\w.cell? ⟨b,o+k * 2+1,none⟩=some (.int .i64 (xs[k]?.getD LeT.zero).ff):=by
 obtain ⟨b,o,rfl,hb,hc⟩:=RdC.elem (z:=LeT.zero) LeT.cells_length h hk (by omega)
 obtain ⟨v0,m0,r0⟩:=hc 0 _ rfl
 obtain ⟨v1,m1,r1⟩:=hc 1 _ rfl
 rw [iQ] at r0 r1
 subst r0 r1
 exact ⟨b,o,rfl,hb,m0,m1⟩
theorem RdC.pin {w:World} {B n c k:Nat} {A:Option Addr} {xs:List bQ} (h:RdC w B (bM xs) (.slice A n c)) (hk:k<xs.length) :
  ∃b o,A=some ⟨b,o,none⟩/\b<B/\w.cell? ⟨b,o+k * 2,none⟩=some (.int .i64 (xs[k]?.getD bQ.zero).block)/\w.cell? ⟨b,o+k * 2+1,none⟩=some (.int .i64 (xs[k]?.getD bQ.zero).pin):=by
 obtain ⟨b,o,rfl,hb,hc⟩:=RdC.elem (z:=bQ.zero) bQ.cells_length h hk (by omega)
 obtain ⟨v0,m0,r0⟩:=hc 0 _ rfl
 obtain ⟨v1,m1,r1⟩:=hc 1 _ rfl
 rw [iQ] at r0 r1
 subst r0 r1
 exact ⟨b,o,rfl,hb,m0,m1⟩
theorem RdC.blk {w:World} {B n c k:Nat} {A:Option Addr} {xs:List Blk} (h:RdC w B (bE xs) (.slice A n c)) (hk:k<xs.length) :
  ∃b o S m p,A=some ⟨b,o,none⟩/\b<B/\w.cell? ⟨b,o+k * 3,none⟩=some (.int .i64 (xs[k]?.getD Blk.zero).kind)/\w.cell? ⟨b,o+k * 3+1,none⟩=some (.int .i64 (xs[k]?.getD Blk.zero).item)/\w.cell? ⟨b,o+k * 3+2,none⟩=some (.slice S m p)/\RdC w B (dF (xs[k]?.getD Blk.zero).les) (.slice S m p):=by
 obtain ⟨b,o,rfl,hb,hc⟩:=RdC.elem (z:=Blk.zero) Blk.cells_length h hk (by omega)
 obtain ⟨v0,m0,r0⟩:=hc 0 _ rfl
 obtain ⟨v1,m1,r1⟩:=hc 1 _ rfl
 obtain ⟨v2,m2,r2⟩:=hc 2 _ rfl
 rw [iQ] at r0 r1
 subst r0 r1
 obtain ⟨S,m,p,rfl⟩:=eO (e:=94) (s:=2) r2
 exact ⟨b,o,S,m,p,rfl,hb,m0,m1,m2,r2⟩
theorem RdC.cn {w:World} {B n c k:Nat} {A:Option Addr} {xs:List Cn} (h:RdC w B (bD xs) (.slice A n c)) (hk:k<xs.length) :
  ∃b o S m p,A=some ⟨b,o,none⟩/\b<B/\w.cell? ⟨b,o+k * 4,none⟩=some (.int .i64 (xs[k]?.getD Cn.zero).node)/\w.cell? ⟨b,o+k * 4+1,none⟩=some (.int .i64 (xs[k]?.getD Cn.zero).src.block)/\w.cell? ⟨b,o+k * 4+2,none⟩=some (.int .i64 (xs[k]?.getD Cn.zero).src.pin)/\w.cell? ⟨b,o+k * 4+3,none⟩=some (.slice S m p)/\RdC w B (bM (xs[k]?.getD Cn.zero).sinks) (.slice S m p):=by
 obtain ⟨b,o,rfl,hb,hc⟩:=RdC.elem (z:=Cn.zero) Cn.cells_length h hk (by omega)
 obtain ⟨v0,m0,r0⟩:=hc 0 _ rfl
 obtain ⟨v1,m1,r1⟩:=hc 1 _ rfl
 obtain ⟨v2,m2,r2⟩:=hc 2 _ rfl
 obtain ⟨v3,m3,r3⟩:=hc 3 _ rfl
 rw [iQ] at r0 r1 r2
 subst r0 r1 r2
 obtain ⟨S,m,p,rfl⟩:=eO (e:=100) (s:=2) r3
 exact ⟨b,o,S,m,p,rfl,hb,m0,m1,m2,m3,r3⟩
theorem RdC.rou {w:World} {B n c k:Nat} {A:Option Addr} {xs:List Rou} (h:RdC w B (bR xs) (.slice A n c)) (hk:k<xs.length) :
  ∃b o S m p S' m' p',A=some ⟨b,o,none⟩/\b<B/\w.cell? ⟨b,o+k * 2,none⟩=some (.slice S m p)/\w.cell? ⟨b,o+k * 2+1,none⟩=some (.slice S' m' p')/\RdC w B (aJ (xs[k]?.getD Rou.zero).nodes) (.slice S m p)/\RdC w B (aJ (xs[k]?.getD Rou.zero).from_) (.slice S' m' p'):=by
 obtain ⟨b,o,rfl,hb,hc⟩:=RdC.elem (z:=Rou.zero) Rou.cells_length h hk (by omega)
 obtain ⟨v0,m0,r0⟩:=hc 0 _ rfl
 obtain ⟨v1,m1,r1⟩:=hc 1 _ rfl
 obtain ⟨S,m,p,rfl⟩:=eO (e:=3) (s:=1) r0
 obtain ⟨S',m',p',rfl⟩:=eO (e:=3) (s:=1) r1
 exact ⟨b,o,S,m,p,S',m',p',rfl,hb,m0,m1,r0,r1⟩
end Go.Proofs.YtofihjoanjkdmaaGreat
