/- The laws' helpers on tiles: comparing, marking, held marks. -/
import Derived.Test.YtignkfhdkcgkgaaGreatStartS
namespace Go.Proofs.YtignkfhdkcgkgaaGreat
set_option maxRecDepth 100000
open Go.RowKit
/-! ### what the call owns, element by element -/
theorem dh.tMux {w:World} {n c i:Nat} {A:Option Addr} {F:List Nat} {ts:List aZ} {t:aZ} (h:dh w (kY ts) (.slice A n c) F) (hF:F.Nodup) (hx:ts[i]?=some t) :
  ∃g S m p,A=some ⟨g,0,none⟩/\w.cell? ⟨g,i * 4,none⟩=some (.slice S m p)/\Own 0 w S m p t.mux/\(∀k∈blk S,k∈F) /\
   ∀(w':World) (zs:List Int),Own 0 w' S m p zs→uW (blk S) w w'→dh w' (kY (ts.set i { t with mux:=zs })) (.slice A n c) F:=by
 obtain ⟨g,v,Fj,rfl,hg,hc,ho,_,_,hsub,hup⟩:=h.child hF (j:=i * 4+0) (qj aZ.cells_length hx (by omega))
 obtain ⟨S,m,p,rfl⟩:=sW (e:=3) (s:=1) ho
 obtain ⟨ho2,rfl⟩:=fU.1 ho
 refine ⟨g,S,m,p,rfl,hc,ho2,hsub,fun w' zs hz hon=>?_⟩
 have:=hup w' (jI zs) (fU.2 ⟨hz,rfl⟩) hon
 rw [zK aZ.cells_length (y:={ t with mux:=zs }) hx (by omega) rfl] at this
 exact this
theorem dh.elen {w:World} {n c:Nat} {A:Option Addr} {F:List Nat} {es:List Le} (h:dh w (nR es) (.slice A n c) F):es.length=n:=h.rd.elen
theorem dh.tlen {w:World} {n c:Nat} {A:Option Addr} {F:List Nat} {ts:List aZ} (h:dh w (kY ts) (.slice A n c) F):ts.length=n:=h.rd.tlen
theorem dQ.chg {lo hi lo' hi':Nat} {w w':World} {c:Cel} {v:Value} (h:dQ lo hi w c v) (hg:Chg lo' hi' w w') (ha:hi<=lo'∨hi'<=lo):dQ lo hi w' c v:=h.keep fun k h1 h2 h3=>hg.block k h3 (by omega)
end Go.Proofs.YtignkfhdkcgkgaaGreat
