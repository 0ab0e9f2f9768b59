/- The laws' helpers on tiles: comparing, marking, held marks. -/
import Derived.Test.YtignkfhdkcgkgaaGreatOwn
import Derived.Test.YtignkfhdkcgkgaaGreatStartS
namespace Go.Proofs.YtignkfhdkcgkgaaGreat
set_option maxRecDepth 100000
open Go.RowKit

/-! ### what the call owns, element by element -/
theorem OwnC.tMux {w:World} {n c i:Nat} {A:Option Addr} {F:List Nat} {ts:List Tile} {t:Tile} (h:OwnC w (celT ts) (.slice A n c) F) (hF:F.Nodup) (hx:ts[i]?=some t) :
  ∃g S m p,A=some ⟨g,0,none⟩∧w.cell? ⟨g,i * 4,none⟩=some (.slice S m p)∧Own 0 w S m p t.mux∧(∀k∈blk S,k∈F) ∧
   ∀(w':World) (zs:List Int),Own 0 w' S m p zs→Only (blk S) w w'→OwnC w' (celT (ts.set i { t with mux:=zs })) (.slice A n c) F:=by
 obtain ⟨g,v,Fj,rfl,hg,hc,ho,_,_,hsub,hup⟩:=h.child hF (j:=i * 4+0) (flat4_at Tile.cells_length hx (by omega))
 obtain ⟨S,m,p,rfl⟩:=ownC_slice (e:=3) (s:=1) ho
 obtain ⟨ho2,rfl⟩:=ownC_ints.1 ho
 refine ⟨g,S,m,p,rfl,hc,ho2,hsub,fun w' zs hz hon=>?_⟩
 have:=hup w' (celI zs) (ownC_ints.2 ⟨hz,rfl⟩) hon
 rw [flat4_set Tile.cells_length (y:={ t with mux:=zs }) hx (by omega) rfl] at this
 exact this
theorem OwnC.elen {w:World} {n c:Nat} {A:Option Addr} {F:List Nat} {es:List Le} (h:OwnC w (celE es) (.slice A n c) F):es.length=n:=h.rd.elen
theorem OwnC.tlen {w:World} {n c:Nat} {A:Option Addr} {F:List Nat} {ts:List Tile} (h:OwnC w (celT ts) (.slice A n c) F):ts.length=n:=h.rd.tlen
theorem OwnT.chg {lo hi lo' hi':Nat} {w w':World} {c:Cel} {v:Value} (h:OwnT lo hi w c v) (hg:Chg lo' hi' w w') (ha:hi≤lo'∨hi'≤lo):OwnT lo hi w' c v:=h.keep fun k h1 h2 h3=>hg.block k h3 (by omega)
end Go.Proofs.YtignkfhdkcgkgaaGreat
