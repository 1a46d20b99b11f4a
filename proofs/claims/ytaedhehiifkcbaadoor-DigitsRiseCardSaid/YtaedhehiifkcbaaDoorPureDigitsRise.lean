/- The plain law behind DigitsRise: the printed functions alone. -/
import Derived.Test.YtaedhehiifkcbaaDoorPDx14
import Derived.Test.YtaedhehiifkcbaaDoorPlHex2
import Derived.Test.YtaedhehiifkcbaaDoorPdWords
namespace Go.Proofs.YtaedhehiifkcbaaDoor
open Go.RowKit Go.Proofs.YtaedhehiifkcbaaDoorW.PrintWords Go.Proofs.YtaedhehiifkcbaaDoorW.PrintLast Go.Proofs.YtaedhehiifkcbaaDoorW.PrintMore Go.Proofs.YtaedhehiifkcbaaDoor.Pl Go.Proofs.YtaedhehiifkcbaaDoor.PD
theorem pure_DigitsRise (a0 : Int) (w0 : (Lit.int .i64 a0).wf = true) (a1 : Int) (w1 : (Lit.int .i64 a1).wf = true) (a2 : Int) (_w2 : (Lit.int .i64 a2).wf = true) :
    ∃ k, afterglowlaw02_DigitsRise.f k a0 a1 a2 = some true := by
  refine ⟨101, ?_⟩
  obtain ⟨h0, h1⟩ := wf64 w0
  obtain ⟨h2, h3⟩ := wf64 w1
  unfold afterglowlaw02_DigitsRise.f
  rw [Hex_val a0 a2 h0 h1 101 (by omega), Hex_val a1 a2 h2 h3 101 (by omega)]
  simp only [Option.bind_some, afterglowlaw02_DigitsRise.j0, if_true, alive02 100 (by omega)]
  rcases hexB_cases a0 a2 with e | ⟨u, w, rfl, rfl, g1, g2, g3, e⟩
  · rw [e, if_pos (by rw [Lib.toList_data])]
  rw [e, if_neg (ofL_ne (hexL_ne g1))]
  rcases hexB_cases a1 (w : Int) with e' | ⟨v, w', rfl, hw, _, _, g3', e'⟩
  · rw [e', if_pos (by rw [Lib.toList_data]; rfl)]
  obtain rfl : w = w' := by omega
  rw [e', if_neg (by have := ofL_ne (hexL_ne (n := v) g1); simpa using this)]
  have hlt := hexL_lt w u v g3 g3'
  have hlist : ∀ n, (ofL (hexL n w)).toList = hexL n w := fun n => by rw [Lib.toList_data]
  rw [hlist, hlist, bytesLess_eq]
  rw [if_pos]
  · congr 1
    by_cases h : u = v
    · subst h; simp
    · have h' : hexL u w ≠ hexL v w := fun he => h (hexL_inj g3 g3' he)
      have h'' : ((u : Int) == (v : Int)) = false := beq_eq_false_iff_ne.2 (by omega)
      rw [h'', show (hexL u w == hexL v w) = false by simpa using h']
      rfl
  · by_cases h : u < v
    · rw [decide_eq_true (hlt.2 h), decide_eq_true (by omega)]; rfl
    · rw [decide_eq_false (fun hh => h (hlt.1 hh)), decide_eq_false (by omega)]; rfl
end Go.Proofs.YtaedhehiifkcbaaDoor
