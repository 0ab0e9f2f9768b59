/- append of one element of several cells to a row that the call owns. ReadFrames: the program's and the reference's read the same configurations. -/
import Derived.Deep.DeepCutAuto
import Derived.Test.YtbnfdhidgdfbeaaCopy
import Derived.Test.YtbnfdhidgdfbeaaDecoS
import Derived.Test.YtbnfdhidgdfbeaaTree
namespace Go.Proofs.Ytbnfdhidgdfbeaa
set_option maxRecDepth 100000
open Go.RowKit

end Go.Proofs.Ytbnfdhidgdfbeaa

namespace Go.Proofs.Ytbnfdhidgdfbeaa
set_option maxRecDepth 100000
open Go.RowKit

theorem tile_info:(Try.prog.info? 52).map (fun i=>(i.zero,i.size,i.bytes))=some (some (.agg #[.slice none 0 0,.slice none 0 0,.int .i64 0,.int .i64 0]),4,64):=by kernel_rfl
theorem frames_n {d:Dev} {fs:List (List Int)} (h:framesOk d fs=true):fs.length=tiles d∧fs.length≤36:=by
 have h1:=framesOk_iff h
 have:=(tiles_eq h1.1).2.2
 exact ⟨h1.2.1,by omega⟩

theorem ownC_slice {w:World} {e s:Nat} {cs:List Cel} {v:Value} {F:List Nat} (h:OwnC w (.row e s cs) v F):∃A n c,v = .slice A n c:=by
 rw [ownC_row] at h
 obtain ⟨A,n,cap,vs,F',rfl,_⟩:=h
 exact ⟨A,n,cap,rfl⟩
theorem TileAt.slices {lo hi:Nat} {w:World} {t:Tile} {v:Value} (h:TileAt lo hi w t v):∃(A0:Option Addr) (n0 c0:Nat) (A1:Option Addr) (n1 c1:Nat),v = .agg #[.slice A0 n0 c0,.slice A1 n1 c1,.int .i64 t.pad,.int .i64 t.ram]∧OwnsL lo hi w t.cells [.slice A0 n0 c0,.slice A1 n1 c1,.int .i64 t.pad,.int .i64 t.ram]:=by
 obtain ⟨v0,v1,rfl,F,h1,h2,h3⟩:=h
 have h1':=h1
 unfold Tile.cells at h1
 rw [ownL_cons] at h1
 obtain ⟨u,vs,F1,F2,e1,_,k1,k2⟩:=h1
 injection e1 with e1 e2
 subst e1 e2
 rw [ownL_cons] at k2
 obtain ⟨u,vs,F3,F4,e1,_,k3,_⟩:=k2
 injection e1 with e1 e2
 subst e1 e2
 obtain ⟨A0,n0,c0,rfl⟩:=ownC_slice (e:=3) (s:=1) k1
 obtain ⟨A1,n1,c1,rfl⟩:=ownC_slice (e:=107) (s:=4) k3
 exact ⟨A0,n0,c0,A1,n1,c1,rfl,F,h1',h2,h3⟩
end Go.Proofs.Ytbnfdhidgdfbeaa
