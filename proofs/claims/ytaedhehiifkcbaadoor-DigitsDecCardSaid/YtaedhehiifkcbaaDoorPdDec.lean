/- What the printed functions of digits come to: decimal digits. Plain Lean. -/
import Derived.Test.YtaedhehiifkcbaaDoorPDx12
import Derived.Test.YtaedhehiifkcbaaDoorPDx13
import Derived.Test.YtaedhehiifkcbaaDoorPDx5
import Derived.Test.YtaedhehiifkcbaaDoorPDx6
import Derived.Test.YtaedhehiifkcbaaDoorPDx7
import Derived.Test.YtaedhehiifkcbaaDoorPDx9
import Derived.Test.YtaedhehiifkcbaaDoorPlHex
import Derived.Test.YtaedhehiifkcbaaDoorPdHex
namespace Go.Proofs.YtaedhehiifkcbaaDoor.PD
open Go.RowKit Go.Proofs.YtaedhehiifkcbaaDoorW.PrintWords Go.Proofs.YtaedhehiifkcbaaDoorW.PrintLast Go.Proofs.YtaedhehiifkcbaaDoorW.PrintMore Go.Proofs.YtaedhehiifkcbaaDoor.Pl

theorem ba_ext {a b : ByteArray} (h : a.data.toList = b.data.toList) : a = b := by
  cases a; cases b
  simpa using h
theorem Dec_val (n : Int) : digits_Dec.f n = some (decB n) := by
  unfold digits_Dec.f decB strconv_Itoa.f
  by_cases h1 : n < 0
  · rw [if_pos h1, if_pos h1]
  rw [if_neg h1, if_neg h1]
  by_cases h2 : n > 1099511627776
  · rw [if_pos h2, if_pos h2]
  rw [if_neg h2, if_neg h2, if_pos (by omega), Option.bind_some]
  unfold Lib.itoa
  rw [if_neg h1]
theorem decB_nat {u : Nat} (h : u ≤ 1099511627776) : decB (u : Int) = ⟨(Lib.decDigits u).toArray⟩ := by
  unfold decB
  rw [if_neg (by omega), if_neg (by omega), Int.toNat_natCast]
theorem decB_none {n : Int} (h : n < 0 ∨ 1099511627776 < n) : decB n = ⟨#[]⟩ := by
  unfold decB
  by_cases h1 : n < 0
  · rw [if_pos h1]
  · rw [if_neg h1, if_pos (by omega)]
theorem Undec_val (s : ByteArray) (hs : s.size ≤ 140737488351232) : digits_Undec.f s = some (undecB s) := by
  unfold digits_Undec.f
  rw [if_pos hs]
  by_cases hx : ∃ u : Nat, u ≤ 1099511627776 ∧ s.data.toList = Lib.decDigits u
  · obtain ⟨u, hu, e⟩ := hx
    rw [undecB_some hu e, e, atoi_dec u (by omega)]
    show (digits_Dec.f (u : Int)).bind _ = _
    rw [Dec_val, Option.bind_some, decB_nat hu, if_pos]
    exact ba_ext (by simp [e])
  · rw [undecB_none (fun u hu e => hx ⟨u, hu, e⟩)]
    rcases hv : Lib.atoiAll s.data.toList with v | _ | _
    rotate_left
    · rfl
    · rfl
    · show (digits_Dec.f v).bind _ = _
      rw [Dec_val, Option.bind_some, if_neg]
      intro e
      by_cases hr : v < 0 ∨ 1099511627776 < v
      · rw [decB_none hr] at e
        rw [← e] at hv
        simp [Lib.atoiAll] at hv
      · obtain ⟨u, rfl⟩ := Int.eq_ofNat_of_zero_le (show 0 ≤ v by omega)
        rw [decB_nat (by omega)] at e
        exact hx ⟨u, by omega, by rw [← e]⟩
theorem hexd_dec {d : Nat} (h : d < 10) : hexd d = UInt8.ofNat (48 + d) := by unfold hexd; rw [if_pos h]
theorem refdec_loop : ∀ (d n : Nat) (k : Nat) (l : List UInt8), 0 < n → n < 10 ^ d → n < 9223372036854775808 → l.length + d ≤ 100 → d < k →
    afterglowref02_Dec.l0 k (n : Int) ⟨l.toArray⟩ = some ⟨(Lib.decDigits n ++ l).toArray⟩ := by
  intro d
  induction d with
  | zero => intro n k l h0 h1 _ _ _; simp at h1; omega
  | succ d ih =>
    intro n k l h0 h1 h2 hl hk
    obtain ⟨k, rfl⟩ : ∃ m, k = m + 1 := ⟨k - 1, by omega⟩
    simp only [afterglowref02_Dec.l0]
    rw [if_pos (by omega), show Int.tmod (n : Int) 10 = ((n % 10 : Nat) : Int) from by rw [Int.tmod_eq_emod_of_nonneg (by omega)]; omega, refdigit_val _ (by omega), Option.bind_some,
      if_pos (by simp [ByteArray.size]; omega), one_append,
      show wrap64 (Int.tdiv (n : Int) 10) = ((n / 10 : Nat) : Int) from by rw [Int.tdiv_eq_ediv_of_nonneg (by omega), w64 (by omega) (by omega)]; omega]
    by_cases h : n < 10
    · obtain ⟨k, rfl⟩ : ∃ m, k = m + 1 := ⟨k - 1, by omega⟩
      simp only [afterglowref02_Dec.l0]
      rw [if_neg (by omega), Lib.decDigits_one h, hexd_dec (by omega), show n % 10 = n by omega]
      rfl
    · rw [ih (n / 10) k _ (by omega) (by rw [Nat.pow_succ] at h1; omega) (by omega) (by simp; omega) (by omega), decDigits_ge h, hexd_dec (by omega), List.append_assoc]
      rfl
theorem refDec_val (n : Int) (k : Nat) (hk : 20 ≤ k) : afterglowref02_Dec.f k n = some (decB n) := by
  obtain ⟨k, rfl⟩ : ∃ m, k = m + 1 := ⟨k - 1, by omega⟩
  unfold afterglowref02_Dec.f
  by_cases h1 : n < 0
  · rw [if_pos h1, decB_none (.inl h1)]; rfl
  rw [if_neg h1]
  by_cases h2 : n > 1099511627776
  · rw [decide_eq_true h2, decB_none (.inr h2)]; rfl
  rw [decide_eq_false h2]
  simp only [afterglowref02_Dec.j0]
  rw [if_neg (by simp)]
  obtain ⟨u, rfl⟩ := Int.eq_ofNat_of_zero_le (show 0 ≤ n by omega)
  rw [decB_nat (by omega)]
  by_cases h3 : u = 0
  · subst h3; rw [if_pos (by simp), Lib.decDigits_one (by omega)]; rfl
  · rw [if_neg (by omega), refdec_loop 14 u k [] (by omega) (by omega) (by omega) (by simp) (by omega), List.append_nil]
theorem refundec_loop (s : ByteArray) (hs1 : 1 ≤ s.size) (hs : s.size ≤ 13) (d : Nat) : ∀ (k i acc : Nat), i + d = s.size → d + 21 < k → acc < 10 ^ i →
    afterglowref02_Undec.l0 k s (acc : Int) (i : Int) = some (match decval acc (s.data.toList.drop i) with
      | some v => if v ≤ 1099511627776 ∧ Lib.decDigits v = s.data.toList then ((v : Int), true) else (0, false)
      | none => (0, false)) := by
  have hlen := size_len s
  induction d with
  | zero =>
    intro k i acc hi hk ha
    obtain ⟨k, rfl⟩ : ∃ m, k = m + 1 := ⟨k - 1, by omega⟩
    simp only [afterglowref02_Undec.l0]
    rw [if_neg (by omega), List.drop_of_length_le (by omega), refDec_val _ k (by omega), Option.bind_some, Lib.toList_data, Lib.toList_data]
    simp only [decval]
    by_cases hv : acc ≤ 1099511627776
    · rw [decB_nat hv]
      by_cases he : Lib.decDigits acc = s.data.toList
      · rw [if_pos (by simpa using he), if_pos ⟨hv, he⟩]
      · rw [if_neg (by simpa using he), if_neg (fun h => he h.2)]
    · rw [decB_none (.inr (by omega)), if_neg, if_neg (fun h => hv h.1)]
      intro e
      have : s.data.toList.length = 0 := by rw [← e]; rfl
      omega
  | succ d ih =>
    intro k i acc hi hk ha
    obtain ⟨k, rfl⟩ : ∃ m, k = m + 1 := ⟨k - 1, by omega⟩
    have hil : i < s.data.toList.length := by omega
    have hp : 10 ^ i ≤ 10 ^ 12 := Nat.pow_le_pow_right (by omega) (by omega)
    have hp' : (10 : Nat) ^ 12 = 1000000000000 := by decide
    have hc := (s.data.toList[i]'hil).toNat_lt
    simp only [afterglowref02_Undec.l0]
    rw [if_pos (by omega), if_pos (by omega), bt_nat s i hil, List.drop_eq_getElem_cons hil]
    simp only [decval]
    by_cases h1 : (s.data.toList[i]'hil).toNat < 48
    · rw [if_pos (by omega), if_neg (by omega)]
    rw [if_neg (by omega)]
    by_cases h2 : (s.data.toList[i]'hil).toNat > 57
    · rw [if_pos (by omega), if_neg (by omega)]
    rw [if_neg (by omega), if_pos (by omega), wrap_nat i (by omega)]
    generalize (s.data.toList[i]'hil).toNat = c at *
    rw [show wrap64 (wrap64 (wrap64 (10 * (acc : Int)) + wrap64 (c : Int)) - 48) = ((10 * acc + (c - 48) : Nat) : Int) from by
      rw [w64 (x := 10 * (acc : Int)) (by omega) (by omega), w64 (x := (c : Int)) (by omega) (by omega), w64 (x := 10 * (acc : Int) + (c : Int)) (by omega) (by omega), w64 (by omega) (by omega)]; omega]
    exact ih k (i + 1) _ (by omega) (by omega) (by rw [Nat.pow_succ]; omega)
theorem refUndec_val (s : ByteArray) (k : Nat) (hk : 40 ≤ k) : afterglowref02_Undec.f k s = some (undecB s) := by
  obtain ⟨k, rfl⟩ : ∃ m, k = m + 1 := ⟨k - 1, by omega⟩
  have hlen := size_len s
  unfold afterglowref02_Undec.f
  by_cases h1 : (s.size : Int) < 1
  · rw [if_pos h1, undecB_none]
    · rfl
    · intro u _ e
      have : (Lib.decDigits u).length = 0 := by rw [← e]; omega
      exact dec_ne_nil u (List.eq_nil_of_length_eq_zero this)
  rw [if_neg h1]
  by_cases h2 : (s.size : Int) > 13
  · rw [decide_eq_true h2, undecB_none]
    · rfl
    · intro u hu e
      have := dec_length u 13 (by omega) (by omega)
      rw [← e] at this
      omega
  · rw [decide_eq_false h2]
    simp only [afterglowref02_Undec.j0]
    rw [if_neg (by simp)]
    have e := refundec_loop s (by omega) (by omega) s.size k 0 0 (by omega) (by omega) (by simp)
    rw [List.drop_zero] at e
    exact e
end Go.Proofs.YtaedhehiifkcbaaDoor.PD
