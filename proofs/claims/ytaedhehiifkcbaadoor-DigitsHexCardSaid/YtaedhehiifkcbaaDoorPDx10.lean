-- Printed by a session's own turn of the kit's print (wip/xprint): Lean checks it.
import Derived.Test.YtaedhehiifkcbaaDoorPDx0
import Derived.Test.YtaedhehiifkcbaaDoorShelf
namespace Go.Proofs.YtaedhehiifkcbaaDoor.PD
open Go.RowKit Go.Proofs.YtaedhehiifkcbaaDoorW.PrintWords Go.Proofs.YtaedhehiifkcbaaDoorW.PrintLast Go.Proofs.YtaedhehiifkcbaaDoorW.PrintMore
attribute [local go_sem] max2_int min2_int max_two min_two max_three min_three max_four min_four   -- for this text's walks alone
set_option linter.unusedVariables false
set_option linter.unusedSimpArgs false

/-! ### strings_Split: function 56 -/
def strings_Split.f (a0 a1 : ByteArray) : Option (List ByteArray) := if a0.size < 4294967281 ∧ 1 ≤ a1.size then some (Lib.splitB a1 0 (Lib.countB a0 a1) a0) else none
theorem strings_Split.calls (a0 a1 : ByteArray) (r : List ByteArray) (w : World) (hG : Aside0 (Good w)) (h : strings_Split.f a0 a1 = some r) :
    Calls Tryd.prog 56 #[.string a0, .string a1] w fun e w' => ∃ v0_ : Value, e = .returned (v0_) ∧ Kd.R Kd.string 9 w' w.heap.size (fun _ => True) v0_ r ∧ Below w.heap.size w w' := by
  unfold strings_Split.f at h
  split at h
  · rename_i hr
    obtain rfl := Option.some.inj h
    obtain ⟨m, hm⟩ := hG.out.max
    refine (Tryd.strings_Split a0 a1 m w hr.1 hm hr.2).mono fun e w' ⟨he, hw⟩ => ⟨_, he, ?_, by subst hw; exact (Below.refl _ _).alloc (Nat.le_refl _) _⟩
    subst hw
    have hl := Lib.splitB_all a1 hr.2 0 (Lib.countB a0 a1) a0 rfl
    have hle := Lib.countB_le a1 hr.2 a0.size a0 (Nat.le_refl _)
    rw [← hl]
    refine ⟨fun _ _ => trivial, ?_⟩
    refine OwnRow.lit w w.heap.size (inner := (Lib.splitB a1 0 (Lib.countB a0 a1) a0).map Value.string) ?_ (Nat.le_refl _) ?_
    · exact Kd.reps_scalar _
    · rw [hl]; omega
  · cases h


end Go.Proofs.YtaedhehiifkcbaaDoor.PD
