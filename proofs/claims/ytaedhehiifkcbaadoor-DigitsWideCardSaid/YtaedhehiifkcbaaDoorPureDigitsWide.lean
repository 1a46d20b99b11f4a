/- The plain law behind DigitsWide: the printed functions alone. -/
import Derived.Test.YtaedhehiifkcbaaDoorPDx15
import Derived.Test.YtaedhehiifkcbaaDoorPlHex2
import Derived.Test.YtaedhehiifkcbaaDoorPdWords
namespace Go.Proofs.YtaedhehiifkcbaaDoor
open Go.RowKit Go.Proofs.YtaedhehiifkcbaaDoorW.PrintWords Go.Proofs.YtaedhehiifkcbaaDoorW.PrintLast Go.Proofs.YtaedhehiifkcbaaDoorW.PrintMore Go.Proofs.YtaedhehiifkcbaaDoor.Pl Go.Proofs.YtaedhehiifkcbaaDoor.PD
theorem pure_DigitsWide (a0 : Int) (w0 : (Lit.int .i64 a0).wf = true) (a1 : Int) (_w1 : (Lit.int .i64 a1).wf = true) :
    ∃ k, afterglowlaw02_DigitsWide.f k a0 a1 = some true := by
  refine ⟨101, ?_⟩
  obtain ⟨h0, h1⟩ := wf64 w0
  have out : a1 < 1 ∨ a1 ≥ 12 → afterglowlaw02_DigitsWide.j0 101 a0 a1 true = some true := by
    intro h
    simp only [afterglowlaw02_DigitsWide.j0, if_true, alive02 100 (by omega), Option.bind_some]
    by_cases h12 : a1 = 12
    · rw [if_pos h12]
    · rw [if_neg h12, Hex_val a0 a1 h0 h1 100 (by omega), Option.bind_some]
      rcases hexB_cases a0 a1 with e | ⟨u, w, _, rfl, g1, g2, _, _⟩
      · rw [e, Lib.toList_data]; rfl
      · omega
  unfold afterglowlaw02_DigitsWide.f
  by_cases hl : a1 < 1
  · rw [if_pos hl]; exact out (.inl hl)
  rw [if_neg hl]
  by_cases hh : a1 ≥ 12
  · rw [decide_eq_true hh]; exact out (.inr hh)
  rw [decide_eq_false hh]
  simp only [afterglowlaw02_DigitsWide.j0]
  rw [if_neg (by simp), Hex_val a0 a1 h0 h1 100 (by omega), Option.bind_some, w64 (by omega) (by omega), Hex_val a0 (a1 + 1) h0 h1 100 (by omega), Option.bind_some]
  rcases hexB_cases a0 a1 with e | ⟨u, w, rfl, rfl, g1, g2, g3, e⟩
  · rw [e, if_pos (by rw [Lib.toList_data]), alive02 100 (by omega)]; rfl
  rw [e, if_neg (ofL_ne (hexL_ne g1)), show ((w : Int) + 1) = ((w + 1 : Nat) : Int) from rfl, hexB_yes (by omega) (by omega) (by rw [Nat.pow_succ]; omega), Unhex_val _ 100 (by omega), alive02 100 (by omega)]
  rw [unhexB_yes (by omega) (by omega) (by rw [Nat.pow_succ]; omega)]
  simp only [Option.bind_some, if_true]
  rw [if_pos (by rw [ofL_size, hexL_length]; omega), if_pos]
  · simp
  · rw [show (⟨#[48]⟩ : ByteArray) = ofL [48] from rfl, ofL_append, hexL_cons, Nat.div_eq_of_lt g3]; rfl
end Go.Proofs.YtaedhehiifkcbaaDoor
