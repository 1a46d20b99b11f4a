/- Plain laws of hexadecimal and decimal digits: lists of bytes and numbers alone. -/

import Derived.Lib.ItoaNum
import Derived.Lib.AtoiAll
namespace Go.Proofs.YtaedhehiifkcbaaDoor.Pl

def hexd (d : Nat) : UInt8 := if d < 10 then UInt8.ofNat (48 + d) else UInt8.ofNat (87 + d)
def hexval (c : UInt8) : Option Nat := if 48 ≤ c.toNat ∧ c.toNat ≤ 57 then some (c.toNat - 48) else if 97 ≤ c.toNat ∧ c.toNat ≤ 102 then some (c.toNat - 87) else none
def hexL : Nat → Nat → List UInt8
  | _, 0 => []
  | n, w + 1 => hexL (n / 16) w ++ [hexd (n % 16)]
def unhexL : Nat → List UInt8 → Option Nat
  | acc, [] => some acc
  | acc, c :: r => match hexval c with
    | some d => unhexL (16 * acc + d) r
    | none => none
def optB : Option Nat → Int × Bool
  | some n => ((n : Int), true)
  | none => (0, false)
def optI : Option Nat → Int
  | some d => (d : Int)
  | none => -1
@[simp] theorem optI_some (d : Nat) : optI (some d) = (d : Int) := rfl
@[simp] theorem optI_none : optI none = -1 := rfl
@[simp] theorem optB_some (d : Nat) : optB (some d) = ((d : Int), true) := rfl
@[simp] theorem optB_none : optB none = (0, false) := rfl
def hexB (n w : Int) : ByteArray := if 1 ≤ w ∧ w ≤ 12 ∧ 0 ≤ n ∧ n.toNat < 16 ^ w.toNat then ⟨(hexL n.toNat w.toNat).toArray⟩ else ⟨#[]⟩
def unhexB (s : ByteArray) : Int × Bool := if 1 ≤ s.size ∧ s.size ≤ 12 then optB (unhexL 0 s.data.toList) else (0, false)

theorem hexd_toNat {d : Nat} (h : d < 16) : (hexd d).toNat = if d < 10 then 48 + d else 87 + d := by
  unfold hexd
  split
  · rw [UInt8.toNat_ofNat']; omega
  · rw [UInt8.toNat_ofNat']; omega
theorem hexval_hexd {d : Nat} (h : d < 16) : hexval (hexd d) = some d := by
  unfold hexval
  rw [hexd_toNat h]
  by_cases h1 : d < 10
  · rw [if_pos h1, if_pos (by omega)]; congr 1; omega
  · rw [if_neg h1, if_neg (by omega), if_pos (by omega)]; congr 1; omega
theorem hexval_some {c : UInt8} {d : Nat} (h : hexval c = some d) : d < 16 ∧ hexd d = c := by
  unfold hexval at h
  split at h
  · obtain rfl := Option.some.inj h
    refine ⟨by omega, UInt8.toNat_inj.1 ?_⟩
    rw [hexd_toNat (by omega), if_pos (by omega)]; omega
  · split at h
    · obtain rfl := Option.some.inj h
      refine ⟨by omega, UInt8.toNat_inj.1 ?_⟩
      rw [hexd_toNat (by omega), if_neg (by omega)]; omega
    · cases h
theorem hexL_length : ∀ (w n : Nat), (hexL n w).length = w
  | 0, _ => rfl
  | w + 1, n => by rw [hexL, List.length_append, hexL_length w]; rfl
theorem hexL_cons : ∀ (w n : Nat), hexL n (w + 1) = hexd (n / 16 ^ w % 16) :: hexL n w
  | 0, n => by simp [hexL]
  | w + 1, n => by
    rw [hexL, hexL_cons w (n / 16), hexL, List.cons_append, Nat.div_div_eq_div_mul, Nat.pow_succ, Nat.mul_comm 16]
theorem unhexL_append : ∀ (a b : List UInt8) (acc : Nat), unhexL acc (a ++ b) = (unhexL acc a).bind fun x => unhexL x b
  | [], b, acc => rfl
  | c :: r, b, acc => by
    rw [List.cons_append, unhexL, unhexL]
    cases hexval c with
    | none => rfl
    | some d => exact unhexL_append r b _
theorem unhexL_hexL : ∀ (w n : Nat), n < 16 ^ w → unhexL 0 (hexL n w) = some n
  | 0, n, h => by
    have : n = 0 := by simpa using h
    subst this; rfl
  | w + 1, n, h => by
    rw [hexL, unhexL_append, unhexL_hexL w (n / 16) (by rw [Nat.pow_succ] at h; omega), Option.bind_some, unhexL, hexval_hexd (by omega)]
    show some _ = _
    congr 1
    omega
theorem unhexL_lt : ∀ (l : List UInt8) (acc m : Nat), unhexL acc l = some m → m < (acc + 1) * 16 ^ l.length
  | [], acc, m, h => by
    have := Option.some.inj h
    simp; omega
  | c :: r, acc, m, h => by
    rw [unhexL] at h
    cases hc : hexval c with
    | none => rw [hc] at h; cases h
    | some d =>
      rw [hc] at h
      have h1 := unhexL_lt r _ m h
      have hd := (hexval_some hc).1
      have h2 : (16 * acc + d + 1) * 16 ^ r.length ≤ (acc + 1) * 16 ^ (r.length + 1) := by
        rw [Nat.pow_succ, ← Nat.mul_assoc, Nat.mul_right_comm]
        exact Nat.mul_le_mul_right _ (by omega)
      exact Nat.lt_of_lt_of_le h1 h2
theorem hexL_unhexL (l : List UInt8) : ∀ m, unhexL 0 l = some m → hexL m l.length = l := by
  induction hn : l.length generalizing l with
  | zero =>
    intro m _
    rw [List.eq_nil_of_length_eq_zero hn]; rfl
  | succ n ih =>
    intro m h
    obtain ⟨a, c, rfl⟩ : ∃ a c, l = a ++ [c] := ⟨l.dropLast, l.getLast (by intro e; rw [e] at hn; cases hn), (List.dropLast_concat_getLast _).symm⟩
    rw [unhexL_append] at h
    obtain ⟨m', h1, h2⟩ := Option.bind_eq_some_iff.1 h
    rw [unhexL] at h2
    cases hc : hexval c with
    | none => rw [hc] at h2; cases h2
    | some d =>
      rw [hc] at h2
      have h3 := Option.some.inj h2
      obtain ⟨hd, hcd⟩ := hexval_some hc
      have hl : a.length = n := by simpa using hn
      rw [hexL, show m / 16 = m' by omega, show m % 16 = d by omega, ih a hl m' h1, hcd]

/-! decimal -/
def decval : Nat → List UInt8 → Option Nat
  | acc, [] => some acc
  | acc, c :: r => if 48 ≤ c.toNat ∧ c.toNat ≤ 57 then decval (10 * acc + (c.toNat - 48)) r else none
theorem decval_append : ∀ (a b : List UInt8) (acc : Nat), decval acc (a ++ b) = (decval acc a).bind fun x => decval x b
  | [], b, acc => rfl
  | c :: r, b, acc => by
    rw [List.cons_append, decval, decval]
    split
    · exact decval_append r b _
    · rfl
theorem ofNat_digit {d : Nat} (h : d < 10) : (UInt8.ofNat (48 + d)).toNat = 48 + d := by rw [UInt8.toNat_ofNat']; omega
theorem decval_one {d acc : Nat} (h : d < 10) : decval acc [UInt8.ofNat (48 + d)] = some (10 * acc + d) := by
  rw [decval, ofNat_digit h, if_pos (by omega), decval]
  congr 1; omega
theorem decDigits_ge {u : Nat} (h : ¬ u < 10) : Lib.decDigits u = Lib.decDigits (u / 10) ++ [UInt8.ofNat (48 + u % 10)] := by rw [Lib.decDigits, dif_neg h]
theorem decval_dec (u : Nat) : decval 0 (Lib.decDigits u) = some u := by
  induction u using Nat.strongRecOn with
  | _ u ih =>
    by_cases h : u < 10
    · rw [Lib.decDigits_one h, decval_one h]; simp
    · rw [decDigits_ge h, decval_append, ih (u / 10) (by omega), Option.bind_some, decval_one (by omega)]
      congr 1; omega
theorem dec_inj {u v : Nat} (h : Lib.decDigits u = Lib.decDigits v) : u = v := by
  have := decval_dec u
  rw [h, decval_dec v] at this
  exact (Option.some.inj this).symm
theorem dec_ne_nil (u : Nat) : Lib.decDigits u ≠ [] := by
  by_cases h : u < 10
  · rw [Lib.decDigits_one h]; simp
  · rw [decDigits_ge h]; simp
theorem dec_length (u : Nat) : ∀ w, 0 < w → u < 10 ^ w → (Lib.decDigits u).length ≤ w := by
  induction u using Nat.strongRecOn with
  | _ u ih =>
    intro w hw hu
    by_cases h : u < 10
    · rw [Lib.decDigits_one h]; simp; omega
    · obtain ⟨w, rfl⟩ : ∃ v, w = v + 1 := ⟨w - 1, by omega⟩
      have hw0 : 0 < w := by
        rcases Nat.eq_zero_or_pos w with rfl | h0
        · simp at hu; omega
        · exact h0
      rw [decDigits_ge h, List.length_append, List.length_singleton]
      have := ih (u / 10) (by omega) w hw0 (by rw [Nat.pow_succ] at hu; omega)
      omega
theorem dec_digit (u : Nat) : ∀ c ∈ Lib.decDigits u, 48 ≤ c.toNat ∧ c.toNat ≤ 57 := by
  induction u using Nat.strongRecOn with
  | _ u ih =>
    intro c hc
    by_cases h : u < 10
    · rw [Lib.decDigits_one h, List.mem_singleton] at hc
      subst hc; rw [ofNat_digit h]; omega
    · rw [decDigits_ge h, List.mem_append, List.mem_singleton] at hc
      rcases hc with hc | hc
      · exact ih (u / 10) (by omega) c hc
      · subst hc; rw [ofNat_digit (by omega)]; omega
theorem parse_eq : ∀ (l : List UInt8) (acc v : Nat), decval acc l = some v → v < 18446744073709551616 → Lib.parseUint10 acc l = .ok v
  | [], acc, v, h, _ => by
    obtain rfl := Option.some.inj h; rfl
  | c :: r, acc, v, h, hv => by
    rw [decval] at h
    split at h
    · rename_i hc
      have hle : ∀ (l : List UInt8) (a v : Nat), decval a l = some v → a ≤ v := by
        intro l
        induction l with
        | nil => intro a v h; have := Option.some.inj h; omega
        | cons x t ih =>
          intro a v h
          rw [decval] at h
          split at h
          · have := ih _ _ h; omega
          · cases h
      have h1 := hle _ _ _ h
      rw [Lib.parseUint10, if_pos hc, if_neg (by omega), if_neg (by omega), Nat.mul_comm acc 10]
      exact parse_eq r _ v h hv
    · cases h
theorem atoi_dec (u : Nat) (h : u < 9223372036854775808) : Lib.atoiAll (Lib.decDigits u) = .ok (u : Int) := by
  cases hl : Lib.decDigits u with
  | nil => exact absurd hl (dec_ne_nil u)
  | cons c r =>
    have hc := dec_digit u c (by rw [hl]; simp)
    have hp : Lib.parseMag (c :: r) = .ok u := by
      unfold Lib.parseMag
      rw [if_neg (by simp)]
      exact parse_eq _ _ _ (by rw [← hl]; exact decval_dec u) (by omega)
    unfold Lib.atoiAll
    simp only
    rw [if_neg (by omega), hp]
    simp only
    rw [if_neg (by omega), if_neg (by omega), if_neg (by omega)]
/-- The decimal digits that a number has within the bound, and none else. -/
def decB (n : Int) : ByteArray := if n < 0 then ⟨#[]⟩ else if n > 1099511627776 then ⟨#[]⟩ else ⟨(Lib.decDigits n.toNat).toArray⟩
def undecB (s : ByteArray) : Int × Bool := match decval 0 s.data.toList with
  | some v => if v ≤ 1099511627776 ∧ Lib.decDigits v = s.data.toList then ((v : Int), true) else (0, false)
  | none => (0, false)
theorem undecB_some {s : ByteArray} {u : Nat} (hu : u ≤ 1099511627776) (h : s.data.toList = Lib.decDigits u) : undecB s = ((u : Int), true) := by
  unfold undecB
  rw [h, decval_dec]
  show (if _ then _ else _) = _
  rw [if_pos ⟨hu, rfl⟩]
theorem undecB_none {s : ByteArray} (h : ∀ u : Nat, u ≤ 1099511627776 → s.data.toList ≠ Lib.decDigits u) : undecB s = (0, false) := by
  unfold undecB
  cases decval 0 s.data.toList with
  | none => rfl
  | some v =>
    show (if _ then _ else _) = _
    rw [if_neg]
    rintro ⟨h1, h2⟩
    exact h v h1 h2.symm
end Go.Proofs.YtaedhehiifkcbaaDoor.Pl
