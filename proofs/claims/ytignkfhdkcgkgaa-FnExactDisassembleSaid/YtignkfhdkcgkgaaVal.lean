/- The values of a device's nodes in plain terms: sweeps over the nodes until nothing changes. Plain lemmas. Look-up tables and output pins of the program's emulator. -/
import Derived.Test.YtignkfhdkcgkgaaDec
import Derived.Test.YtignkfhdkcgkgaaRq
namespace Go.Proofs.Ytignkfhdkcgkgaa
set_option maxRecDepth 100000
open Go.RowKit Cw

def nv (vs:List Int) (i:Int):Int:=vs[i.toNat]?.getD 0
def leAt (ts:List Tile) (t e:Int):Le:=(tileAt ts t).les[e.toNat]?.getD Le.zero
/-! ### which nodes are determined does not depend on the state or the pads -/
end Go.Proofs.Ytignkfhdkcgkgaa

namespace Go.Proofs.Ytignkfhdkcgkgaa
set_option maxRecDepth 100000
open Go.RowKit Cw

theorem le_fit {d:Dev} {ts:List Tile} {t e:Int} (hc:CfgOk d ts) (ht:tileIn d t=true) (he:0≤e∧e≤1):LeFit (leAt ts t e)∧(tileAt ts t).les.length=2∧t.toNat<ts.length∧TileFit d (tileAt ts t):=by
 obtain ⟨hd,h0,h1⟩:=tileIn_iff.1 ht
 have hN:=(tiles_eq hd).1
 have hlt:t.toNat<ts.length:=by rw [hc.len];omega
 have hf:=tileOk_iff (hc.fit _ hlt)
 obtain ⟨e0,e1,hle,ho0,ho1⟩:=hf.les
 change (tileAt ts t).les=[e0,e1] at hle
 refine ⟨?_,by rw [hle];rfl,hlt,hf⟩
 unfold leAt
 rw [hle]
 have:e=0∨e=1:=by omega
 rcases this with rfl|rfl
 ·exact leOk_iff ho0
 ·exact leOk_iff ho1
theorem sel_fit {e:Le} (h:LeFit e):e.sel.length=4∧∀j,j<4→0≤e.sel[j]?.getD 0∧e.sel[j]?.getD 0≤7:=by
 obtain ⟨a,b,c,d,hs,ha,hb,hc,hd⟩:=h.sel
 rw [hs]
 refine ⟨rfl,fun j hj=>?_⟩
 have:j=0∨j=1∨j=2∨j=3:=by omega
 rcases this with rfl|rfl|rfl|rfl <;> simp <;> omega
end Go.Proofs.Ytignkfhdkcgkgaa
