-- Printed by a session's own turn of the kit's print (wip/xprint): Lean checks it.
import Derived.Test.YtaedhehiifkcbaaDoorPDx0
import Derived.Test.YtaedhehiifkcbaaDoorShelf
namespace Go.Proofs.YtaedhehiifkcbaaDoor.PD
open Go.RowKit Go.Proofs.YtaedhehiifkcbaaDoorW.PrintWords Go.Proofs.YtaedhehiifkcbaaDoorW.PrintLast Go.Proofs.YtaedhehiifkcbaaDoorW.PrintMore
attribute [local go_sem] max2_int min2_int max_two min_two max_three min_three max_four min_four   -- for this text's walks alone
set_option linter.unusedVariables false
set_option linter.unusedSimpArgs false

/-! ### strconv_Itoa: function 49 -/
def strconv_Itoa.f (a0 : Int) : Option ByteArray := if -9223372036854775808 ≤ a0 ∧ a0 ≤ 9223372036854775807 then some ⟨(Lib.itoa a0).toArray⟩ else none
theorem strconv_Itoa.calls (a0 : Int) (r : ByteArray) (w : World) (hG : Aside0 (Good w)) (h : strconv_Itoa.f a0 = some r) :
    Calls Tryd.prog 49 #[.int .i64 a0] w fun e w' => e = .returned (.string r) ∧ Below w.heap.size w w' := by
  unfold strconv_Itoa.f at h
  split at h
  · rename_i hr
    obtain rfl := Option.some.inj h
    exact (Tryd.strconv_Itoa a0 hr.1 hr.2 w hG.out.pow).mono fun e w' ⟨he, k, os, hw⟩ => ⟨he, by subst hw; exact below_grow_drewN w k os⟩
  · cases h


end Go.Proofs.YtaedhehiifkcbaaDoor.PD
