/- The plain law behind DigitsLines: the printed functions alone. -/
import Derived.Test.YtaedhehiifkcbaaDoorPDx14
import Derived.Test.YtaedhehiifkcbaaDoorPlHex2
import Derived.Test.YtaedhehiifkcbaaDoorPdWords
namespace Go.Proofs.YtaedhehiifkcbaaDoor
open Go.RowKit Go.Proofs.YtaedhehiifkcbaaDoorW.PrintWords Go.Proofs.YtaedhehiifkcbaaDoorW.PrintLast Go.Proofs.YtaedhehiifkcbaaDoorW.PrintMore Go.Proofs.YtaedhehiifkcbaaDoor.Pl Go.Proofs.YtaedhehiifkcbaaDoor.PD
theorem pure_DigitsLines (l0 : List ByteArray) (hb0 : (l0.map fun s => s.size + 1).sum ≤ 1048576) :
    ∃ k, afterglowlaw02_DigitsLines.f k l0 = some true := by
  refine ⟨900000000000000, ?_⟩
  have hb : bulkL (l0.map (·.data.toList)) ≤ 1048576 := by
    unfold bulkL
    rw [List.map_map]
    refine Nat.le_trans (Nat.le_of_eq ?_) hb0
    congr 1
  have hlen := len_le_bulk (l0.map (·.data.toList))
  rw [List.length_map] at hlen
  unfold afterglowlaw02_DigitsLines.f
  rw [alive02 _ (by omega)]
  simp only [Option.bind_some, if_true]
  by_cases h1 : (l0.length : Int) > 100
  · rw [if_pos h1]
  rw [if_neg h1, Line_val l0 (by omega), Option.bind_some, refLine_val l0 (by omega) _ (by omega), Option.bind_some, if_pos rfl]
  by_cases h2 : (ofL (lineS (l0.map (·.data.toList)))).toList = []
  · rw [if_pos h2]
  · have h3 : lineS (l0.map (·.data.toList)) ≠ [] := by rw [Lib.toList_data] at h2; simpa using h2
    have hj := join_le 32 (l0.map (·.data.toList))
    have hs : (ofL (lineS (l0.map (·.data.toList)))).size ≤ 1048576 := by
      rw [ofL_size]
      unfold lineS
      split
      · omega
      · exact Nat.zero_le _
    rw [if_neg h2, Split_val _ (by omega), Option.bind_some, show (ofL (lineS (l0.map (·.data.toList)))).data.toList = lineS (l0.map (·.data.toList)) from rfl, splitS_lineS h3, map_ofL, refSame_val l0 l0 (by omega) _ (by omega), Option.bind_some, decide_eq_true rfl]
end Go.Proofs.YtaedhehiifkcbaaDoor
