/- Reading blocks, connections and routes. -/
import Derived.Test.YtofihjoanjkdmaaGreatLayP2
import Derived.Test.YtofihjoanjkdmaaGreatNetRd
namespace Go.Proofs.YtofihjoanjkdmaaGreat
set_option maxRecDepth 100000
open Go.RowKit
def LeT.cells (e:LeT):List Cel:=[.int e.lut,.int e.ff]
def cO (es:List LeT):Cel := .row 94 2 (es.flatMap LeT.cells)
def Blk.cells (b:Blk):List Cel:=[.int b.kind,.int b.item,cO b.les]
def aa (bs:List Blk):Cel := .row 89 3 (bs.flatMap Blk.cells)
def ah.cells (p:ah):List Cel:=[.int p.block,.int p.pin]
def bL (g:List ah):Cel := .row 100 2 (g.flatMap ah.cells)
def Cn.cells (c:Cn):List Cel:=[.int c.node,.int c.src.block,.int c.src.pin,bL c.sinks]
def ag (cs:List Cn):Cel := .row 158 4 (cs.flatMap Cn.cells)
def Rou.cells (r:Rou):List Cel:=[aG r.nodes,aG r.from_]
def bE (rs:List Rou):Cel := .row 114 2 (rs.flatMap Rou.cells)
theorem LeT.cells_length (x:LeT):x.cells.length=2:=rfl
theorem Blk.cells_length (x:Blk):x.cells.length=3:=rfl
theorem ah.cells_length (x:ah):x.cells.length=2:=rfl
theorem Cn.cells_length (x:Cn):x.cells.length=4:=rfl
theorem Rou.cells_length (x:Rou):x.cells.length=2:=rfl
theorem xK (xs:List ah) (x:ah):(xs++[x]).flatMap ah.cells=xs.flatMap ah.cells++x.cells:=by simp
theorem zw (xs:List Cn) (x:Cn):(xs++[x]).flatMap Cn.cells=xs.flatMap Cn.cells++x.cells:=by simp
theorem RdC.elem {α:Type} {f:α→List Cel} {s e:Nat} (hf:∀x,(f x).length=s) {w:World} {B n c k:Nat} {A:Option Addr} {xs:List α} {z:α} (h:RdC w B (.row e s (xs.flatMap f)) (.slice A n c)) (hk:k<xs.length) (hs:0<s) :
  ∃b o,A=some ⟨b,o,none⟩/\b<B/\∀(j:Nat) (c:Cel),(f (xs[k]?.getD z))[j]?=some c→∃v,w.cell? ⟨b,o+k * s+j,none⟩=some v/\RdC w B c v:=by
 have hl:=jm hf xs
 have H:k * s+s<=xs.length * s:=by
  have:=Nat.mul_le_mul_right s (show k+1<=xs.length by omega)
  rwa [Nat.succ_mul] at this
 obtain ⟨b,o,rfl,D,hc⟩:=h.cell (by rw [hl];omega)
 have q:=getD_some z hk
 refine ⟨b,o,rfl,D,fun j c hj=>?_⟩
 have g:j<s:=by
  rcases Nat.lt_or_ge j s with h|h
  ·exact h
  rw [List.getElem?_eq_none (by rw [hf];exact h)] at hj
  cases hj
 obtain ⟨I,v,e1,G,u⟩:=hc (k * s+j) (by rw [hl];omega)
 rw [vZ hf q g,hj] at e1
 obtain rfl:=Option.some.inj e1
 exact ⟨v,by rw [Nat.add_assoc];exact G,u⟩
theorem RdC.flatN {α:Type} {f:α→List Cel} {s e:Nat} (hf:∀x,(f x).length=s) (hs:0<s) {w:World} {B n c:Nat} {A:Option Addr} {xs:List α} (h:RdC w B (.row e s (xs.flatMap f)) (.slice A n c)):xs.length=n:=by
 have:=RdC.len h
 rw [jm hf] at this
 exact Nat.eq_of_mul_eq_mul_right hs this
theorem RdC.esN {w:World} {B n c:Nat} {A:Option Addr} {xs:List LeT} (h:RdC w B (cO xs) (.slice A n c)):xs.length=n:=RdC.flatN LeT.cells_length (by omega) h
theorem RdC.blkN {w:World} {B n c:Nat} {A:Option Addr} {xs:List Blk} (h:RdC w B (aa xs) (.slice A n c)):xs.length=n:=RdC.flatN Blk.cells_length (by omega) h
theorem RdC.pinN {w:World} {B n c:Nat} {A:Option Addr} {xs:List ah} (h:RdC w B (bL xs) (.slice A n c)):xs.length=n:=RdC.flatN ah.cells_length (by omega) h
theorem RdC.cnN {w:World} {B n c:Nat} {A:Option Addr} {xs:List Cn} (h:RdC w B (ag xs) (.slice A n c)):xs.length=n:=RdC.flatN Cn.cells_length (by omega) h
theorem RdC.rouN {w:World} {B n c:Nat} {A:Option Addr} {xs:List Rou} (h:RdC w B (bE xs) (.slice A n c)):xs.length=n:=RdC.flatN Rou.cells_length (by omega) h
theorem RdC.es {w:World} {B n c k:Nat} {A:Option Addr} {xs:List LeT} (h:RdC w B (cO xs) (.slice A n c)) (hk:k<xs.length) :
  ∃b o,A=some ⟨b,o,none⟩/\b<B/\w.cell? ⟨b,o+k * 2,none⟩=some (.int .i64 (xs[k]?.getD LeT.zero).lut)/\w.cell? ⟨b,o+k * 2+1,none⟩=some (.int .i64 (xs[k]?.getD LeT.zero).ff):=by
 obtain ⟨b,o,rfl,q,hc⟩:=RdC.elem (z:=LeT.zero) LeT.cells_length h hk (by omega)
 obtain ⟨G,D,j⟩:=hc 0 _ rfl
 obtain ⟨H,u,g⟩:=hc 1 _ rfl
 rw [jV] at j g
 subst j g
 exact ⟨b,o,rfl,q,D,u⟩
theorem RdC.pin {w:World} {B n c k:Nat} {A:Option Addr} {xs:List ah} (h:RdC w B (bL xs) (.slice A n c)) (hk:k<xs.length) :
  ∃b o,A=some ⟨b,o,none⟩/\b<B/\w.cell? ⟨b,o+k * 2,none⟩=some (.int .i64 (xs[k]?.getD ah.zero).block)/\w.cell? ⟨b,o+k * 2+1,none⟩=some (.int .i64 (xs[k]?.getD ah.zero).pin):=by
 obtain ⟨b,o,rfl,q,hc⟩:=RdC.elem (z:=ah.zero) ah.cells_length h hk (by omega)
 obtain ⟨G,D,j⟩:=hc 0 _ rfl
 obtain ⟨H,u,g⟩:=hc 1 _ rfl
 rw [jV] at j g
 subst j g
 exact ⟨b,o,rfl,q,D,u⟩
theorem RdC.blk {w:World} {B n c k:Nat} {A:Option Addr} {xs:List Blk} (h:RdC w B (aa xs) (.slice A n c)) (hk:k<xs.length) :
  ∃b o S m p,A=some ⟨b,o,none⟩/\b<B/\w.cell? ⟨b,o+k * 3,none⟩=some (.int .i64 (xs[k]?.getD Blk.zero).kind)/\w.cell? ⟨b,o+k * 3+1,none⟩=some (.int .i64 (xs[k]?.getD Blk.zero).item)/\w.cell? ⟨b,o+k * 3+2,none⟩=some (.slice S m p)/\RdC w B (cO (xs[k]?.getD Blk.zero).les) (.slice S m p):=by
 obtain ⟨b,o,rfl,D,hc⟩:=RdC.elem (z:=Blk.zero) Blk.cells_length h hk (by omega)
 obtain ⟨J,H,q⟩:=hc 0 _ rfl
 obtain ⟨K,G,j⟩:=hc 1 _ rfl
 obtain ⟨I,u,g⟩:=hc 2 _ rfl
 rw [jV] at q j
 subst q j
 obtain ⟨S,m,p,rfl⟩:=eX (e:=94) (s:=2) g
 exact ⟨b,o,S,m,p,rfl,D,H,G,u,g⟩
theorem RdC.cn {w:World} {B n c k:Nat} {A:Option Addr} {xs:List Cn} (h:RdC w B (ag xs) (.slice A n c)) (hk:k<xs.length) :
  ∃b o S m p,A=some ⟨b,o,none⟩/\b<B/\w.cell? ⟨b,o+k * 4,none⟩=some (.int .i64 (xs[k]?.getD Cn.zero).node)/\w.cell? ⟨b,o+k * 4+1,none⟩=some (.int .i64 (xs[k]?.getD Cn.zero).src.block)/\w.cell? ⟨b,o+k * 4+2,none⟩=some (.int .i64 (xs[k]?.getD Cn.zero).src.pin)/\w.cell? ⟨b,o+k * 4+3,none⟩=some (.slice S m p)/\RdC w B (bL (xs[k]?.getD Cn.zero).sinks) (.slice S m p):=by
 obtain ⟨b,o,rfl,G,hc⟩:=RdC.elem (z:=Cn.zero) Cn.cells_length h hk (by omega)
 obtain ⟨R,J,q⟩:=hc 0 _ rfl
 obtain ⟨U,I,j⟩:=hc 1 _ rfl
 obtain ⟨Q,D,g⟩:=hc 2 _ rfl
 obtain ⟨K,H,u⟩:=hc 3 _ rfl
 rw [jV] at q j g
 subst q j g
 obtain ⟨S,m,p,rfl⟩:=eX (e:=100) (s:=2) u
 exact ⟨b,o,S,m,p,rfl,G,J,I,D,H,u⟩
theorem RdC.rou {w:World} {B n c k:Nat} {A:Option Addr} {xs:List Rou} (h:RdC w B (bE xs) (.slice A n c)) (hk:k<xs.length) :
  ∃b o S m p q j g,A=some ⟨b,o,none⟩/\b<B/\w.cell? ⟨b,o+k * 2,none⟩=some (.slice S m p)/\w.cell? ⟨b,o+k * 2+1,none⟩=some (.slice q j g)/\RdC w B (aG (xs[k]?.getD Rou.zero).nodes) (.slice S m p)/\RdC w B (aG (xs[k]?.getD Rou.zero).from_) (.slice q j g):=by
 obtain ⟨b,o,rfl,G,hc⟩:=RdC.elem (z:=Rou.zero) Rou.cells_length h hk (by omega)
 obtain ⟨J,I,D⟩:=hc 0 _ rfl
 obtain ⟨K,H,u⟩:=hc 1 _ rfl
 obtain ⟨S,m,p,rfl⟩:=eX (e:=3) (s:=1) D
 obtain ⟨q,j,g,rfl⟩:=eX (e:=3) (s:=1) u
 exact ⟨b,o,S,m,p,q,j,g,rfl,G,I,H,D,u⟩
end Go.Proofs.YtofihjoanjkdmaaGreat
