/- The laws' helpers on tiles: comparing, marking, held marks. -/
import Derived.Test.YtignkfhdkcgkgaaGreatEsPure
namespace Go.Proofs.YtignkfhdkcgkgaaGreat
set_option maxRecDepth 100000
open Go.RowKit
/-! ### what the call owns, element by element -/
theorem dG.tMux {w:World} {n c i:Nat} {A:Option Addr} {F:List Nat} {ts:List au} {t:au} (h:dG w (lH ts) (.slice A n c) F) (hF:F.Nodup) (hx:ts[i]?=some t) :
  ∃g S m p,A=some ⟨g,0,none⟩/\w.cell? ⟨g,i * 4,none⟩=some (.slice S m p)/\Own 0 w S m p t.mux/\(∀k∈blk S,k∈F) /\
   ∀(w':World) (zs:List Int),Own 0 w' S m p zs→mD (blk S) w w'→dG w' (lH (ts.set i { t with mux:=zs })) (.slice A n c) F:=by
 obtain ⟨g,v,Fj,rfl,hg,hc,ho,_,_,hsub,hup⟩:=h.child hF (j:=i * 4+0) (qD au.cells_length hx (by omega))
 obtain ⟨S,m,p,rfl⟩:=rF (e:=3) (s:=1) ho
 obtain ⟨ho2,rfl⟩:=fQ.1 ho
 refine ⟨g,S,m,p,rfl,hc,ho2,hsub,fun w' zs hz hon=>?_⟩
 have:=hup w' (ig zs) (fQ.2 ⟨hz,rfl⟩) hon
 rw [xz au.cells_length (y:={ t with mux:=zs }) hx (by omega) rfl] at this
 exact this
theorem dG.elen {w:World} {n c:Nat} {A:Option Addr} {F:List Nat} {es:List Le} (h:dG w (qG es) (.slice A n c) F):es.length=n:=h.rd.elen
theorem dG.tlen {w:World} {n c:Nat} {A:Option Addr} {F:List Nat} {ts:List au} (h:dG w (lH ts) (.slice A n c) F):ts.length=n:=h.rd.tlen
theorem eB.chg {lo hi lo' hi':Nat} {w w':World} {c:Cel} {v:Value} (h:eB lo hi w c v) (hg:Chg lo' hi' w w') (ha:hi<=lo'∨hi'<=lo):eB lo hi w' c v:=h.keep fun k h1 h2 h3=>hg.block k h3 (by omega)
end Go.Proofs.YtignkfhdkcgkgaaGreat
