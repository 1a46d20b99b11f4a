/- The plain law behind DigitsDec: the printed functions alone. -/
import Derived.Test.YtaedhehiifkcbaaDoorPDx13
import Derived.Test.YtaedhehiifkcbaaDoorPDx6
import Derived.Test.YtaedhehiifkcbaaDoorPlHex2
import Derived.Test.YtaedhehiifkcbaaDoorPdWords
namespace Go.Proofs.YtaedhehiifkcbaaDoor
open Go.RowKit Go.Proofs.YtaedhehiifkcbaaDoorW.PrintWords Go.Proofs.YtaedhehiifkcbaaDoorW.PrintLast Go.Proofs.YtaedhehiifkcbaaDoorW.PrintMore Go.Proofs.YtaedhehiifkcbaaDoor.Pl Go.Proofs.YtaedhehiifkcbaaDoor.PD
theorem pure_DigitsDec (a0 : Int) (_w0 : (Lit.int .i64 a0).wf = true) (a1 : ByteArray) (w1 : a1.size ≤ 140737488351232) :
    ∃ k, afterglowlaw02_DigitsDec.f k a0 a1 = some true := by
  refine ⟨101, ?_⟩
  unfold afterglowlaw02_DigitsDec.f
  rw [Dec_val, Undec_val a1 w1, refUndec_val a1 101 (by omega), refDec_val a0 101 (by omega)]
  simp only [Option.bind_some, if_true, bne_self]
  have tail : ∀ b : Bool, (b = true → (undecB a1).2 = true) → (if b = true then (digits_Dec.f (undecB a1).1).bind fun t => some (t.toList == a1.toList) else some true) = some true := by
    intro b hb
    cases b with
    | false => rfl
    | true =>
      have e := undecB_back (s := a1) (m := (undecB a1).1) (by rw [← hb rfl])
      rw [if_pos rfl, Dec_val, Option.bind_some, e.1]
      simp
  simp only [afterglowlaw02_DigitsDec.j0]
  rw [if_neg (by simp), Undec_val _ (by have := decB_size a0; omega), alive02 100 (by omega)]
  simp only [Option.bind_some, if_true]
  rcases decB_cases a0 with ⟨e, _⟩ | ⟨u, rfl, hu, e⟩
  · rw [e, undecB_empty]
    rw [if_pos (by rw [Lib.toList_data]; rfl), if_neg (by simp)]
    exact tail _ (fun h => h)
  · rw [undecB_dec hu, e]
    rw [if_pos (by have := ofL_ne (dec_ne_nil u); simpa using this), if_pos rfl, if_pos rfl]
    exact tail _ (fun h => h)
end Go.Proofs.YtaedhehiifkcbaaDoor
