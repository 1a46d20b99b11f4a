/- The plain law behind DigitsSplits: the printed functions alone. -/
import Derived.Test.YtaedhehiifkcbaaDoorPDx14
import Derived.Test.YtaedhehiifkcbaaDoorPDx9
import Derived.Test.YtaedhehiifkcbaaDoorPlHex2
import Derived.Test.YtaedhehiifkcbaaDoorPdWords
namespace Go.Proofs.YtaedhehiifkcbaaDoor
open Go.RowKit Go.Proofs.YtaedhehiifkcbaaDoorW.PrintWords Go.Proofs.YtaedhehiifkcbaaDoorW.PrintLast Go.Proofs.YtaedhehiifkcbaaDoorW.PrintMore Go.Proofs.YtaedhehiifkcbaaDoor.Pl Go.Proofs.YtaedhehiifkcbaaDoor.PD
theorem pure_DigitsSplits (a0 : ByteArray) (_w0 : a0.size ≤ 140737488351232) :
    ∃ k, afterglowlaw02_DigitsSplits.f k a0 = some true := by
  refine ⟨900000000000000, ?_⟩
  unfold afterglowlaw02_DigitsSplits.f
  rw [alive02 _ (by omega)]
  simp only [Option.bind_some, if_true]
  by_cases h1 : (a0.size : Int) > 2000
  · rw [if_pos h1]
  have hlen := size_len a0
  have hb := bulk_split 32 a0.data.toList
  have hb2 : bulkL (splitS a0.data.toList) ≤ 2001 := by
    unfold splitS
    split
    · omega
    · exact Nat.zero_le _
  have hl2 := len_le_bulk (splitS a0.data.toList)
  rw [if_neg h1, Split_val a0 (by omega), Option.bind_some, refSplit_val a0 (by omega) _ (by omega), Option.bind_some, refSame_val _ _ (by rw [List.length_map]; omega) _ (by rw [List.length_map]; omega), Option.bind_some, decide_eq_true rfl, if_pos rfl]
  by_cases h2 : splitS a0.data.toList = []
  · rw [h2, if_pos (by simp)]
  · rw [if_neg (by rw [List.length_map]; intro e; exact h2 (List.eq_nil_of_length_eq_zero (by omega))), Line_val _ (by rw [ofL_map]; omega), Option.bind_some, ofL_map, lineS_splitS h2, ofL_data]
    simp
end Go.Proofs.YtaedhehiifkcbaaDoor
