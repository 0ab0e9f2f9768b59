/- Frames that were built from valid tiles read as these tiles: plain lemmas. -/
import Derived.Test.YtbnfdhidgdfbeaaBldS
import Derived.Test.YtbnfdhidgdfbeaaRead
namespace Go.Proofs.Ytbnfdhidgdfbeaa
set_option maxRecDepth 100000
open Go.RowKit Cw

theorem dataI_encI {x : Int} (h : 0 ≤ x ∧ x ≤ 65535) : dataI (encI x) = x := by
  unfold dataI encI
  rw [Int.toNat_natCast, data_enc _ (by omega)]
  omega
theorem dataOf_row (d : Dev) (t : Tile) : dataOf (rowOf d t) = encT d t := by
  unfold dataOf rowOf
  rw [List.map_map]
  apply List.ext_getElem?
  intro j
  rw [List.getElem?_map]
  rcases Nat.lt_or_ge j (encT d t).length with hj | hj
  · have hb := encT_bd d t j
    rw [List.getElem?_eq_getElem hj] at hb ⊢
    simp only [Option.getD_some] at hb
    simp only [Option.map_some, Function.comp_apply, dataI_encI hb]
  · rw [List.getElem?_eq_none hj]; rfl
theorem tilesOf_build {d : Dev} {ts : List Tile} (h : ∀ t ∈ ts, tileOk d t = true) : tilesOf d (buildF d ts) = ts := by
  unfold tilesOf buildF
  rw [List.map_map]
  refine (List.map_congr_left fun t ht => ?_).trans (List.map_id _)
  simp only [Function.comp_apply, id_eq]
  rw [dataOf_row, dec_enc (h t ht)]
end Go.Proofs.Ytbnfdhidgdfbeaa
