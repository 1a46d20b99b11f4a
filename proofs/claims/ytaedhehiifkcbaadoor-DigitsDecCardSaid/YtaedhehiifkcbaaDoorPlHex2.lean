/- Plain laws of digits: there and back, and their order. -/
import Derived.Test.YtaedhehiifkcbaaDoorPDx9
import Derived.Test.YtaedhehiifkcbaaDoorPlHex
import Derived.Test.YtaedhehiifkcbaaDoorPdHex
import Derived.Test.YtaedhehiifkcbaaDoorPdDec
import Derived.Test.YtaedhehiifkcbaaDoorPdWords
namespace Go.Proofs.YtaedhehiifkcbaaDoor.PD
open Go.RowKit Go.Proofs.YtaedhehiifkcbaaDoorW.PrintWords Go.Proofs.YtaedhehiifkcbaaDoorW.PrintLast Go.Proofs.YtaedhehiifkcbaaDoorW.PrintMore Go.Proofs.YtaedhehiifkcbaaDoor.Pl

theorem wf64 {x : Int} (h : (Lit.int .i64 x).wf = true) : -9223372036854775808 ≤ x ∧ x ≤ 9223372036854775807 := by
  simp [Lit.wf, IntKind.min, IntKind.max, IntKind.signed, IntKind.bits] at h
  exact ⟨by omega, by omega⟩
theorem hexB_yes {n w : Nat} (h1 : 1 ≤ w) (h2 : w ≤ 12) (h3 : n < 16 ^ w) : hexB (n : Int) (w : Int) = ofL (hexL n w) := by
  unfold hexB
  rw [if_pos ⟨by omega, by omega, by omega, by simpa using h3⟩]
  rfl
theorem hexB_cases (n w : Int) : hexB n w = ⟨#[]⟩ ∨ ∃ u v : Nat, n = u ∧ w = v ∧ 1 ≤ v ∧ v ≤ 12 ∧ u < 16 ^ v ∧ hexB n w = ofL (hexL u v) := by
  by_cases h : 1 ≤ w ∧ w ≤ 12 ∧ 0 ≤ n ∧ n.toNat < 16 ^ w.toNat
  · right
    obtain ⟨u, rfl⟩ := Int.eq_ofNat_of_zero_le h.2.2.1
    obtain ⟨v, rfl⟩ := Int.eq_ofNat_of_zero_le (show 0 ≤ w by omega)
    simp only [Int.toNat_natCast] at h
    exact ⟨u, v, rfl, rfl, by omega, by omega, h.2.2.2, hexB_yes (by omega) (by omega) h.2.2.2⟩
  · left
    unfold hexB
    rw [if_neg h]
theorem unhexB_yes {n w : Nat} (h1 : 1 ≤ w) (h2 : w ≤ 12) (h3 : n < 16 ^ w) : unhexB (ofL (hexL n w)) = ((n : Int), true) := by
  unfold unhexB
  rw [if_pos (by rw [ofL_size, hexL_length]; omega)]
  show optB (unhexL 0 (hexL n w)) = _
  rw [unhexL_hexL w n h3, optB_some]
theorem unhexB_empty : unhexB ⟨#[]⟩ = (0, false) := rfl
theorem ofL_ne {l : List UInt8} (h : l ≠ []) : (ofL l).toList ≠ [] := by rw [Lib.toList_data]; simpa using h
theorem hexL_ne {n w : Nat} (h : 1 ≤ w) : hexL n w ≠ [] := by
  intro e
  have := hexL_length w n
  rw [e] at this
  simp at this
  omega
theorem unhexB_back {s : ByteArray} {m : Int} (h : unhexB s = (m, true)) : hexB m (s.size : Int) = s := by
  unfold unhexB at h
  split at h
  · rename_i hs
    cases hu : unhexL 0 s.data.toList with
    | none => rw [hu] at h; cases h
    | some n =>
      rw [hu, optB_some] at h
      obtain ⟨rfl, _⟩ := Prod.mk.inj h
      have hl := size_len s
      have h2 := unhexL_lt _ _ _ hu
      rw [hl] at h2
      rw [hexB_yes hs.1 hs.2 (by simpa using h2)]
      have e := hexL_unhexL _ _ hu
      rw [hl] at e
      rw [e, ofL_data]
  · cases h
theorem bne_self (b : Bool) : (b != b) = false := by cases b <;> rfl
theorem hexL_mod (w : Nat) : ∀ n, hexL (n % 16 ^ w) w = hexL n w := by
  induction w with
  | zero => intro n; rfl
  | succ w ih =>
    intro n
    have h1 : n % 16 ^ (w + 1) / 16 = n / 16 % 16 ^ w := by
      rw [Nat.pow_succ, Nat.mul_comm, Nat.mod_mul_right_div_self]
    have h2 : n % 16 ^ (w + 1) % 16 = n % 16 := Nat.mod_mod_of_dvd n ⟨16 ^ w, by rw [Nat.pow_succ, Nat.mul_comm]⟩
    rw [hexL, hexL, h1, h2, ih]
theorem hexd_lt {d e : Nat} (hd : d < 16) (he : e < 16) : hexd d < hexd e ↔ d < e := by
  rw [UInt8.lt_iff_toNat_lt, hexd_toNat hd, hexd_toNat he]
  split <;> split <;> omega
theorem hexL_lt (w : Nat) : ∀ a b, a < 16 ^ w → b < 16 ^ w → (hexL a w < hexL b w ↔ a < b) := by
  induction w with
  | zero =>
    intro a b ha hb
    have : a = 0 := by simpa using ha
    have : b = 0 := by simpa using hb
    subst a; subst b
    simp [hexL]
  | succ w ih =>
    intro a b ha hb
    have hp : 0 < 16 ^ w := Nat.pow_pos (by omega)
    rw [Nat.pow_succ] at ha hb
    have qa : a / 16 ^ w < 16 := Nat.div_lt_of_lt_mul ha
    have qb : b / 16 ^ w < 16 := Nat.div_lt_of_lt_mul hb
    rw [hexL_cons, hexL_cons, Nat.mod_eq_of_lt qa, Nat.mod_eq_of_lt qb, List.cons_lt_cons_iff, hexd_lt qa qb, ← hexL_mod w a, ← hexL_mod w b, ih _ _ (Nat.mod_lt _ hp) (Nat.mod_lt _ hp)]
    have ea := Nat.div_add_mod a (16 ^ w)
    have eb := Nat.div_add_mod b (16 ^ w)
    have la := Nat.mod_lt a hp
    have lb := Nat.mod_lt b hp
    generalize a / 16 ^ w = x at *
    generalize b / 16 ^ w = y at *
    generalize a % 16 ^ w = r at *
    generalize b % 16 ^ w = t at *
    generalize 16 ^ w = p at *
    subst ea; subst eb
    constructor
    · rintro (h | ⟨h, h'⟩)
      · have : p * (x + 1) ≤ p * y := Nat.mul_le_mul_left _ h
        rw [Nat.mul_succ] at this
        omega
      · have hxy : x = y := by
          have h3 := congrArg UInt8.toNat h
          rw [hexd_toNat qa, hexd_toNat qb] at h3
          split at h3 <;> split at h3 <;> omega
        subst hxy
        omega
    · intro h
      rcases Nat.lt_trichotomy x y with hxy | hxy | hxy
      · exact .inl hxy
      · subst hxy
        exact .inr ⟨rfl, by omega⟩
      · have : p * (y + 1) ≤ p * x := Nat.mul_le_mul_left _ hxy
        rw [Nat.mul_succ] at this
        omega
theorem hexL_inj {w a b : Nat} (ha : a < 16 ^ w) (hb : b < 16 ^ w) (h : hexL a w = hexL b w) : a = b := by
  have e := unhexL_hexL w a ha
  rw [h, unhexL_hexL w b hb] at e
  exact (Option.some.inj e).symm
theorem undecB_back {s : ByteArray} {m : Int} (h : undecB s = (m, true)) : decB m = s ∧ 0 ≤ m ∧ m ≤ 1099511627776 := by
  unfold undecB at h
  split at h
  · split at h
    · rename_i v _ hv
      obtain ⟨rfl, _⟩ := Prod.mk.inj h
      rw [decB_nat hv.1, hv.2]
      exact ⟨ofL_data s, by omega, by omega⟩
    · cases h
  · cases h
theorem undecB_dec {u : Nat} (h : u ≤ 1099511627776) : undecB (decB (u : Int)) = ((u : Int), true) := by
  rw [decB_nat h]
  exact undecB_some h rfl
theorem undecB_empty : undecB ⟨#[]⟩ = (0, false) := by
  refine undecB_none fun u _ e => ?_
  exact dec_ne_nil u (by simpa using e.symm)
theorem decB_cases (n : Int) : (decB n = ⟨#[]⟩ ∧ (n < 0 ∨ 1099511627776 < n)) ∨ ∃ u : Nat, n = u ∧ u ≤ 1099511627776 ∧ decB n = ofL (Lib.decDigits u) := by
  by_cases h : n < 0 ∨ 1099511627776 < n
  · exact .inl ⟨decB_none h, h⟩
  · obtain ⟨u, rfl⟩ := Int.eq_ofNat_of_zero_le (show 0 ≤ n by omega)
    exact .inr ⟨u, rfl, by omega, decB_nat (by omega)⟩
theorem decB_size (n : Int) : (decB n).size ≤ 13 := by
  rcases decB_cases n with ⟨e, _⟩ | ⟨u, _, hu, e⟩
  · rw [e]; decide
  · rw [e, ofL_size]
    exact dec_length u 13 (by omega) (by omega)
end Go.Proofs.YtaedhehiifkcbaaDoor.PD
