/- What the printed functions of digits come to: hexadecimal digits. Plain Lean. -/
import Derived.Test.YtaedhehiifkcbaaDoorPDx1
import Derived.Test.YtaedhehiifkcbaaDoorPDx2
import Derived.Test.YtaedhehiifkcbaaDoorPDx3
import Derived.Test.YtaedhehiifkcbaaDoorPDx4
import Derived.Test.YtaedhehiifkcbaaDoorPDx9
import Derived.Test.YtaedhehiifkcbaaDoorPlHex
import Derived.Laws.BitsAllLaws
import Derived.Laws.BitsLemmas
namespace Go.Proofs.YtaedhehiifkcbaaDoor.PD
open Go.RowKit Go.Proofs.YtaedhehiifkcbaaDoorW.PrintWords Go.Proofs.YtaedhehiifkcbaaDoorW.PrintLast Go.Proofs.YtaedhehiifkcbaaDoorW.PrintMore Go.Proofs.YtaedhehiifkcbaaDoor.Pl

theorem ofInt_i64 (a : Nat) (ha : a < 9223372036854775808) : (BitVec.ofInt 64 (a : Int)).toNat = a := by
  rw [BitVec.ofInt_natCast, BitVec.toNat_ofNat]; exact Nat.mod_eq_of_lt (by omega)
theorem i64_and_nat (a b : Nat) (ha : a < 9223372036854775808) (hb : b < 9223372036854775808) : bits .and .i64 (a : Int) (b : Int) = ((a &&& b : Nat) : Int) := by
  have hx : a &&& b < 2 ^ 63 := Nat.and_lt_two_pow _ (by omega)
  show IntKind.i64.wrap ((BitVec.ofInt 64 (a : Int) &&& BitVec.ofInt 64 (b : Int)).toNat : Int) = _
  rw [BitVec.toNat_and, ofInt_i64 a ha, ofInt_i64 b hb, IntKind.wrap_i64]
  omega
theorem i64_or_nat (a b : Nat) (ha : a < 9223372036854775808) (hb : b < 9223372036854775808) : bits .or .i64 (a : Int) (b : Int) = ((a ||| b : Nat) : Int) := by
  have hx : a ||| b < 2 ^ 63 := Nat.or_lt_two_pow (by omega) (by omega)
  show IntKind.i64.wrap ((BitVec.ofInt 64 (a : Int) ||| BitVec.ofInt 64 (b : Int)).toNat : Int) = _
  rw [BitVec.toNat_or, ofInt_i64 a ha, ofInt_i64 b hb, IntKind.wrap_i64]
  omega
theorem and15 (a : Nat) (ha : a < 9223372036854775808) : bits .and .i64 (a : Int) 15 = ((a % 16 : Nat) : Int) := by
  rw [show (15 : Int) = ((15 : Nat) : Int) from rfl, i64_and_nat a 15 ha (by omega), show (15 : Nat) = 2 ^ 4 - 1 from rfl, Nat.and_two_pow_sub_one_eq_mod]
theorem or16 (a d : Nat) (ha : 16 * a < 9223372036854775808) (hd : d < 16) : bits .or .i64 ((16 * a : Nat) : Int) (d : Int) = ((16 * a + d : Nat) : Int) := by
  rw [i64_or_nat _ d ha (by omega), show (16 * a : Nat) = 2 ^ 4 * a from rfl, Nat.two_pow_add_eq_or_of_lt (by omega)]
theorem shr_hex (n i : Nat) (hi : i ≤ 12) : shr .i64 (n : Int) (((4 * i : Nat)) : Int) = ((n / 16 ^ i : Nat) : Int) := by
  unfold shr
  rw [Int.toNat_natCast, Nat.min_eq_left (by show 4 * i ≤ 64; omega), show (16 : Nat) = 2 ^ 4 from rfl, ← Nat.pow_mul]
  norm_cast
theorem w64 {x : Int} (h0 : -9223372036854775808 ≤ x) (h1 : x ≤ 9223372036854775807) : wrap64 x = x := by unfold wrap64; omega
abbrev tab : ByteArray := ⟨#[48, 49, 50, 51, 52, 53, 54, 55, 56, 57, 97, 98, 99, 100, 101, 102]⟩
theorem bt_tab (d : Nat) (h : d < 16) : bt tab (d : Int) = ((hexd d).toNat : Int) := by
  have : ∀ d : Fin 16, bt tab (d.val : Int) = ((hexd d.val).toNat : Int) := by decide +kernel
  exact this ⟨d, h⟩
theorem index_tab (c : UInt8) : Lib.indexByte tab.data.toList c = optI (hexval c) := by
  have : ∀ n : Fin 256, Lib.indexByte tab.data.toList (UInt8.ofNat n.val) = optI (hexval (UInt8.ofNat n.val)) := by decide +kernel
  have h := this ⟨c.toNat, c.toNat_lt⟩
  simpa using h
theorem set_row (m : Nat) (L : List Int) (v : Int) : (List.replicate (m + 1) (0 : Int) ++ L).set m v = List.replicate m 0 ++ v :: L := by
  rw [List.set_append_left _ _ (by simp), List.replicate_succ', List.set_append_right _ _ (by simp)]
  simp
theorem hex_loop (n w : Nat) (hn : n < 9223372036854775808) (hw : w ≤ 12) (d : Nat) : ∀ (k i : Nat), i + d = w → d < k →
    digits_Hex.l0 k (n : Int) (w : Int) (List.replicate (w - i) 0 ++ (hexL n i).map fun c => (c.toNat : Int)) (w : Int) (i : Int) = some ⟨(hexL n w).toArray⟩ := by
  induction d with
  | zero =>
    intro k i hi hk
    obtain ⟨k, rfl⟩ : ∃ m, k = m + 1 := ⟨k - 1, by omega⟩
    obtain rfl : i = w := by omega
    simp only [digits_Hex.l0]
    rw [if_neg (by omega), Nat.sub_self, List.replicate_zero, List.nil_append]
    unfold strOfNums
    rw [List.map_map]
    congr 3
    have : ∀ c : UInt8, ((fun n : Int => UInt8.ofNat n.toNat) ∘ fun c : UInt8 => (c.toNat : Int)) c = c := fun c => by simp
    rw [List.map_congr_left (g := id) (fun c _ => this c), List.map_id]
  | succ d ih =>
    intro k i hi hk
    obtain ⟨k, rfl⟩ : ∃ m, k = m + 1 := ⟨k - 1, by omega⟩
    have hq : n / 16 ^ i ≤ n := Nat.div_le_self _ _
    simp only [digits_Hex.l0]
    rw [if_pos (by omega), show wrap64 (4 * (i : Int)) = ((4 * i : Nat) : Int) from by rw [w64 (by omega) (by omega)]; omega, if_pos (by omega), shr_hex n i (by omega), and15 _ (by omega),
      if_pos (by omega), if_pos (by omega), show wrap64 (wrap64 ((w : Int) - 1) - (i : Int)) = ((w - 1 - i : Nat) : Int) from by rw [w64 (x := (w : Int) - 1) (by omega) (by omega), w64 (by omega) (by omega)]; omega,
      if_pos (by omega), if_pos (by simp [hexL_length]; omega), wrap_nat i (by omega), Int.toNat_natCast, bt_tab _ (by omega), show w - i = (w - 1 - i) + 1 by omega, set_row]
    have e := ih k (i + 1) (by omega) (by omega)
    rw [hexL_cons, show w - (i + 1) = w - 1 - i by omega] at e
    exact e
theorem Hex_val (n w : Int) (hn0 : -9223372036854775808 ≤ n) (hn1 : n ≤ 9223372036854775807) (k : Nat) (hk : 20 ≤ k) : digits_Hex.f k n w = some (hexB n w) := by
  obtain ⟨k, rfl⟩ : ∃ m, k = m + 1 := ⟨k - 1, by omega⟩
  unfold digits_Hex.f hexB
  by_cases h1 : w < 1
  · rw [if_pos h1, if_neg (by omega)]; rfl
  rw [if_neg h1]
  by_cases h2 : w > 12
  · rw [if_pos h2, if_neg (by omega)]; rfl
  rw [if_neg h2]
  by_cases h3 : n < 0
  · rw [if_pos h3, if_neg (by omega)]; rfl
  rw [if_neg h3]
  obtain ⟨n, rfl⟩ := Int.eq_ofNat_of_zero_le (show 0 ≤ n by omega)
  obtain ⟨w, rfl⟩ := Int.eq_ofNat_of_zero_le (show 0 ≤ w by omega)
  simp only [Int.toNat_natCast]
  rw [show wrap64 (4 * (w : Int)) = ((4 * w : Nat) : Int) from by rw [w64 (by omega) (by omega)]; omega, if_pos (by omega), shr_hex n w (by omega)]
  have hp : 0 < 16 ^ w := Nat.pow_pos (by omega)
  by_cases h4 : n < 16 ^ w
  · rw [if_pos ⟨by omega, by omega, by omega, h4⟩, Nat.div_eq_of_lt h4]
    simp only [digits_Hex.j0]
    rw [if_neg (by simp), if_pos (by omega), if_pos (by simp; omega), Int.toNat_natCast]
    have e := hex_loop n w (by omega) (by omega) w k 0 (by omega) (by omega)
    simpa [hexL] using e
  · rw [if_neg (fun h => h4 h.2.2.2)]
    have : 0 < n / 16 ^ w := Nat.div_pos (by omega) hp
    generalize n / 16 ^ w = q at this
    simp only [digits_Hex.j0]
    rw [if_pos (by simp; omega)]

theorem unhex_loop (s : ByteArray) (hs : s.size ≤ 12) (d : Nat) : ∀ (k i acc : Nat), i + d = s.size → d < k → acc < 16 ^ i →
    digits_Unhex.l0 k s (acc : Int) (s.size : Int) (i : Int) = some (optB (unhexL acc (s.data.toList.drop i))) := by
  have hlen := size_len s
  induction d with
  | zero =>
    intro k i acc hi hk ha
    obtain ⟨k, rfl⟩ : ∃ m, k = m + 1 := ⟨k - 1, by omega⟩
    simp only [digits_Unhex.l0]
    rw [if_neg (by omega), List.drop_of_length_le (by omega)]
    rfl
  | succ d ih =>
    intro k i acc hi hk ha
    obtain ⟨k, rfl⟩ : ∃ m, k = m + 1 := ⟨k - 1, by omega⟩
    have hil : i < s.data.toList.length := by omega
    have hp : 16 ^ i ≤ 16 ^ 11 := Nat.pow_le_pow_right (by omega) (by omega)
    have hp' : (16 : Nat) ^ 11 = 17592186044416 := by decide
    simp only [digits_Unhex.l0, strings_IndexByte.f]
    rw [if_pos (by omega), if_pos (by omega), if_pos (by omega), Option.bind_some, bt_nat s i hil, List.drop_eq_getElem_cons hil, unhexL]
    rw [show (((s.data.toList[i]'hil).toNat : Int)).toNat.toUInt8 = s.data.toList[i]'hil by simp, index_tab]
    cases hv : hexval (s.data.toList[i]'hil) with
    | none => rfl
    | some v =>
      have hv16 := (hexval_some hv).1
      rw [optI_some, if_neg (by omega), show wrap64 ((acc : Int) * 16) = ((16 * acc : Nat) : Int) from by rw [w64 (by omega) (by omega)]; omega, or16 acc v (by omega) hv16, wrap_nat i (by omega)]
      exact ih k (i + 1) _ (by omega) (by omega) (by rw [Nat.pow_succ]; omega)
theorem Unhex_val (s : ByteArray) (k : Nat) (hk : 20 ≤ k) : digits_Unhex.f k s = some (unhexB s) := by
  obtain ⟨k, rfl⟩ : ∃ m, k = m + 1 := ⟨k - 1, by omega⟩
  unfold digits_Unhex.f unhexB
  by_cases h1 : (s.size : Int) < 1
  · rw [if_pos h1, if_neg (by omega)]; rfl
  rw [if_neg h1]
  by_cases h2 : (s.size : Int) > 12
  · rw [if_neg (by omega), decide_eq_true h2]; rfl
  · rw [if_pos (by omega), decide_eq_false h2]
    simp only [digits_Unhex.j0]
    rw [if_neg (by simp)]
    have e := unhex_loop s (by omega) s.size k 0 0 (by omega) (by omega) (by simp)
    simpa using e

theorem refdigit_val (d : Nat) (hd : d < 16) : afterglowref02_digit.f (d : Int) = some ⟨#[hexd d]⟩ := by
  unfold afterglowref02_digit.f hexd strOfNums
  by_cases h : d < 10
  · rw [if_pos (by omega), if_pos h, w64 (by omega) (by omega)]
    simp only [List.map_cons, List.map_nil]
    rw [show ((48 + (d : Int)) % 256).toNat = 48 + d by omega]
  · rw [if_neg (by omega), if_neg h, w64 (by omega) (by omega)]
    simp only [List.map_cons, List.map_nil]
    rw [show ((87 + (d : Int)) % 256).toNat = 87 + d by omega]
theorem one_append (c : UInt8) (l : List UInt8) : (⟨#[c]⟩ : ByteArray) ++ ⟨l.toArray⟩ = ⟨(c :: l).toArray⟩ := by
  apply ByteArray.ext
  simp [ByteArray.data_append]
theorem refhex_loop (n w : Nat) (hn : n < 9223372036854775808) (hw : w ≤ 12) (d : Nat) : ∀ (k i : Nat), i + d = w → d < k →
    afterglowref02_Hex.l0 k ((n / 16 ^ i : Nat) : Int) (w : Int) ⟨(hexL n i).toArray⟩ (i : Int) = some (if n < 16 ^ w then ⟨(hexL n w).toArray⟩ else ⟨#[]⟩) := by
  induction d with
  | zero =>
    intro k i hi hk
    obtain ⟨k, rfl⟩ : ∃ m, k = m + 1 := ⟨k - 1, by omega⟩
    obtain rfl : i = w := by omega
    have hp : 0 < 16 ^ i := Nat.pow_pos (by omega)
    simp only [afterglowref02_Hex.l0]
    rw [if_neg (by omega)]
    by_cases h : n < 16 ^ i
    · rw [if_pos h, Nat.div_eq_of_lt h, if_neg (by simp)]
    · have := Nat.div_pos (show 16 ^ i ≤ n by omega) hp
      rw [if_neg h, if_pos (by omega)]
  | succ d ih =>
    intro k i hi hk
    obtain ⟨k, rfl⟩ : ∃ m, k = m + 1 := ⟨k - 1, by omega⟩
    have e := ih k (i + 1) (by omega) (by omega)
    have hq : n / 16 ^ i ≤ n := Nat.div_le_self _ _
    rw [Nat.pow_succ, ← Nat.div_div_eq_div_mul, hexL_cons] at e
    generalize n / 16 ^ i = q at e hq ⊢
    simp only [afterglowref02_Hex.l0]
    rw [if_pos (by omega), show Int.tmod (q : Int) 16 = ((q % 16 : Nat) : Int) from by rw [Int.tmod_eq_emod_of_nonneg (by omega)]; omega, refdigit_val _ (by omega), Option.bind_some,
      if_pos (by simp [ByteArray.size, hexL_length]; omega), wrap_nat i (by omega), one_append,
      show wrap64 (Int.tdiv (q : Int) 16) = ((q / 16 : Nat) : Int) from by
        rw [Int.tdiv_eq_ediv_of_nonneg (by omega), w64 (by omega) (by omega)]; omega]
    exact e
theorem refHex_val (n w : Int) (hn0 : -9223372036854775808 ≤ n) (hn1 : n ≤ 9223372036854775807) (k : Nat) (hk : 20 ≤ k) : afterglowref02_Hex.f k n w = some (hexB n w) := by
  obtain ⟨k, rfl⟩ : ∃ m, k = m + 1 := ⟨k - 1, by omega⟩
  unfold afterglowref02_Hex.f hexB
  by_cases h1 : w < 1
  · rw [if_pos h1, if_neg (by omega)]; rfl
  rw [if_neg h1]
  by_cases h2 : w > 12
  · rw [if_pos h2, if_neg (by omega)]; rfl
  rw [if_neg h2]
  by_cases h3 : n < 0
  · rw [decide_eq_true h3, if_neg (by omega)]; rfl
  rw [decide_eq_false h3]
  obtain ⟨n, rfl⟩ := Int.eq_ofNat_of_zero_le (show 0 ≤ n by omega)
  obtain ⟨w, rfl⟩ := Int.eq_ofNat_of_zero_le (show 0 ≤ w by omega)
  simp only [Int.toNat_natCast, afterglowref02_Hex.j0]
  rw [if_neg (by simp)]
  have e := refhex_loop n w (by omega) (by omega) w k 0 (by omega) (by omega)
  rw [show ((0 : Nat) : Int) = 0 from rfl, Nat.pow_zero, Nat.div_one] at e
  refine e.trans ?_
  by_cases h4 : n < 16 ^ w
  · rw [if_pos h4, if_pos ⟨by omega, by omega, by omega, h4⟩]
  · rw [if_neg h4, if_neg (fun h => h4 h.2.2.2)]
theorem refvalue_val (c : UInt8) (k : Nat) (hk : 1 ≤ k) : afterglowref02_value.f k (c.toNat : Int) = some (optI (hexval c)) := by
  obtain ⟨k, rfl⟩ : ∃ m, k = m + 1 := ⟨k - 1, by omega⟩
  have hc := c.toNat_lt
  unfold afterglowref02_value.f hexval
  by_cases h1 : 48 ≤ c.toNat
  · rw [if_pos (by omega)]
    by_cases h2 : c.toNat ≤ 57
    · rw [decide_eq_true (by omega), if_pos ⟨h1, h2⟩]
      simp only [afterglowref02_value.j0, if_true]
      rw [w64 (x := (c.toNat : Int)) (by omega) (by omega), w64 (by omega) (by omega), optI_some]
      congr 1; omega
    · rw [decide_eq_false (by omega), if_neg (by omega)]
      simp only [afterglowref02_value.j0]
      rw [if_neg (by simp)]
      by_cases h3 : 97 ≤ c.toNat
      · rw [if_pos (by omega)]
        by_cases h4 : c.toNat ≤ 102
        · rw [if_pos (by omega), if_pos ⟨h3, h4⟩, w64 (x := (c.toNat : Int)) (by omega) (by omega), w64 (by omega) (by omega)]
          rw [optI_some]
          congr 1; omega
        · rw [if_neg (by omega), if_neg (by omega)]; rfl
      · rw [if_neg (by omega), if_neg (by omega)]; rfl
  · rw [if_neg (by omega), if_neg (by omega), if_neg (by omega)]
    simp only [afterglowref02_value.j0]
    rw [if_neg (by simp), if_neg (by omega)]; rfl
theorem refunhex_loop (s : ByteArray) (hs : s.size ≤ 12) (d : Nat) : ∀ (k i acc : Nat), i + d = s.size → d + 1 < k → acc < 16 ^ i →
    afterglowref02_Unhex.l0 k s (acc : Int) (i : Int) = some (optB (unhexL acc (s.data.toList.drop i))) := by
  have hlen := size_len s
  induction d with
  | zero =>
    intro k i acc hi hk ha
    obtain ⟨k, rfl⟩ : ∃ m, k = m + 1 := ⟨k - 1, by omega⟩
    simp only [afterglowref02_Unhex.l0]
    rw [if_neg (by omega), List.drop_of_length_le (by omega)]
    rfl
  | succ d ih =>
    intro k i acc hi hk ha
    obtain ⟨k, rfl⟩ : ∃ m, k = m + 1 := ⟨k - 1, by omega⟩
    have hil : i < s.data.toList.length := by omega
    have hp : 16 ^ i ≤ 16 ^ 11 := Nat.pow_le_pow_right (by omega) (by omega)
    have hp' : (16 : Nat) ^ 11 = 17592186044416 := by decide
    simp only [afterglowref02_Unhex.l0]
    rw [if_pos (by omega), if_pos (by omega), bt_nat s i hil, List.drop_eq_getElem_cons hil, unhexL, refvalue_val _ k (by omega), Option.bind_some]
    cases hv : hexval (s.data.toList[i]'hil) with
    | none => rfl
    | some v =>
      have hv16 := (hexval_some hv).1
      rw [optI_some, if_neg (by omega), Option.bind_some, show wrap64 (wrap64 (16 * (acc : Int)) + (v : Int)) = ((16 * acc + v : Nat) : Int) from by rw [w64 (x := 16 * (acc : Int)) (by omega) (by omega), w64 (by omega) (by omega)]; omega, wrap_nat i (by omega)]
      exact ih k (i + 1) _ (by omega) (by omega) (by rw [Nat.pow_succ]; omega)
theorem refUnhex_val (s : ByteArray) (k : Nat) (hk : 20 ≤ k) : afterglowref02_Unhex.f k s = some (unhexB s) := by
  obtain ⟨k, rfl⟩ : ∃ m, k = m + 1 := ⟨k - 1, by omega⟩
  unfold afterglowref02_Unhex.f unhexB
  by_cases h1 : (s.size : Int) < 1
  · rw [if_pos h1, if_neg (by omega)]; rfl
  rw [if_neg h1]
  by_cases h2 : (s.size : Int) > 12
  · rw [if_neg (by omega), decide_eq_true h2]; rfl
  · rw [if_pos (by omega), decide_eq_false h2]
    simp only [afterglowref02_Unhex.j0]
    rw [if_neg (by simp)]
    have e := refunhex_loop s (by omega) s.size k 0 0 (by omega) (by omega) (by simp)
    simpa using e
end Go.Proofs.YtaedhehiifkcbaaDoor.PD
