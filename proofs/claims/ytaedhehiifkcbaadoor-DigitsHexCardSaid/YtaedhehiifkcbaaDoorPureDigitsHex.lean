/- The plain law behind DigitsHex: the printed functions alone. -/
import Derived.Test.YtaedhehiifkcbaaDoorPDx1
import Derived.Test.YtaedhehiifkcbaaDoorPDx12
import Derived.Test.YtaedhehiifkcbaaDoorPlHex2
import Derived.Test.YtaedhehiifkcbaaDoorPdWords
namespace Go.Proofs.YtaedhehiifkcbaaDoor
open Go.RowKit Go.Proofs.YtaedhehiifkcbaaDoorW.PrintWords Go.Proofs.YtaedhehiifkcbaaDoorW.PrintLast Go.Proofs.YtaedhehiifkcbaaDoorW.PrintMore Go.Proofs.YtaedhehiifkcbaaDoor.Pl Go.Proofs.YtaedhehiifkcbaaDoor.PD
theorem pure_DigitsHex (a0 : Int) (w0 : (Lit.int .i64 a0).wf = true) (a1 : Int) (_w1 : (Lit.int .i64 a1).wf = true) (a2 : ByteArray) (_w2 : a2.size ≤ 140737488351232) :
    ∃ k, afterglowlaw02_DigitsHex.f k a0 a1 a2 = some true := by
  refine ⟨101, ?_⟩
  obtain ⟨h0, h1⟩ := wf64 w0
  unfold afterglowlaw02_DigitsHex.f
  rw [Hex_val a0 a1 h0 h1 101 (by omega), Unhex_val a2 101 (by omega), refUnhex_val a2 101 (by omega), refHex_val a0 a1 h0 h1 101 (by omega)]
  simp only [Option.bind_some, if_true, bne_self]
  have tail : ∀ b : Bool, (b = true → (unhexB a2).2 = true) → (if b = true then (digits_Hex.f 100 (unhexB a2).1 (a2.size : Int)).bind fun t154 => some (t154.toList == a2.toList) else some true) = some true := by
    intro b hb
    cases b with
    | false => rfl
    | true =>
      have e := unhexB_back (s := a2) (m := (unhexB a2).1) (by rw [← hb rfl])
      have hr : -9223372036854775808 ≤ (unhexB a2).1 ∧ (unhexB a2).1 ≤ 9223372036854775807 := by
        rcases hexB_cases (unhexB a2).1 (a2.size : Int) with e2 | ⟨u, v, e2, e3, _, h12, hlt, _⟩
        · rw [e2] at e
          rw [← e]; decide
        · have : 16 ^ v ≤ 16 ^ 12 := Nat.pow_le_pow_right (by omega) h12
          have h16 : (16 : Nat) ^ 12 = 281474976710656 := by decide
          omega
      rw [if_pos rfl, Hex_val _ _ hr.1 hr.2 100 (by omega), Option.bind_some, e]
      simp
  simp only [afterglowlaw02_DigitsHex.j0]
  rw [if_neg (by simp), Unhex_val _ 100 (by omega), alive02 100 (by omega)]
  simp only [Option.bind_some, if_true]
  rcases hexB_cases a0 a1 with e | ⟨u, v, rfl, rfl, g1, g2, g3, e⟩
  · rw [e, unhexB_empty]
    rw [if_pos (by rw [Lib.toList_data]; rfl), if_neg (by simp)]
    exact tail _ (fun h => h)
  · rw [e, unhexB_yes g1 g2 g3]
    rw [if_pos (by have := ofL_ne (hexL_ne (n := u) g1); simpa using this), if_pos rfl, if_pos rfl, if_pos (by rw [ofL_size, hexL_length])]
    exact tail _ (fun h => h)
end Go.Proofs.YtaedhehiifkcbaaDoor
