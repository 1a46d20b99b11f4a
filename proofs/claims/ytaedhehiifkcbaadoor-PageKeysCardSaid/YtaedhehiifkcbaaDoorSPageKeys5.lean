import Derived.Test.YtaedhehiifkcbaaDoorSPageKeys4
import Derived.Test.YtaedhehiifkcbaaDoorRows
import Derived.ProofKit
import Derived.OpenShut
import Derived.SliceStrings
import Derived.Deep.Slices
import Derived.Deep.Fields
import Derived.Lib.SmallJoins
namespace Go.Proofs.YtaedhehiifkcbaaDoor.PG
open Go.RowKit Go.Proofs.YtaedhehiifkcbaaDoorW.PrintWords Go.Proofs.YtaedhehiifkcbaaDoorW.PrintLast Go.Proofs.YtaedhehiifkcbaaDoorW.PrintMore Go.Proofs.YtaedhehiifkcbaaDoor.Pl
def keyB (a b c d : Int) : ByteArray := if decB a = ⟨#[]⟩ ∨ decB b = ⟨#[]⟩ ∨ decB c = ⟨#[]⟩ ∨ decB d = ⟨#[]⟩ then ⟨#[]⟩ else ofL (Lib.join [(decB a).data.toList, (decB b).data.toList, (decB c).data.toList, (decB d).data.toList] [46])
theorem decB_len (n : Int) : (decB n).data.toList.length ≤ 13 := by
  rw [Array.length_toList]
  exact decB_size n
theorem key_len (a b c d : Int) : (Lib.join [(decB a).data.toList, (decB b).data.toList, (decB c).data.toList, (decB d).data.toList] [46]).length ≤ 55 := by
  rw [join_cons, join_cons, join_cons, join_single]
  have := decB_len a
  have := decB_len b
  have := decB_len c
  have := decB_len d
  simp only [List.length_append, List.length_cons, List.length_nil]
  omega
theorem keyB_size (a b c d : Int) : (keyB a b c d).size ≤ 55 := by
  unfold keyB
  split
  · exact Nat.zero_le _
  · rw [ofL_size]; exact key_len a b c d
theorem Key_val (a b c d : Int) : page_Key.f a b c d = some (keyB a b c d) := by
  unfold page_Key.f slices_Contains_string_string.f strings_Join.f
  simp only [Dec_val, Option.bind_some]
  unfold keyB
  have hc : Lib.containsS [decB a, decB b, decB c, decB d] ⟨#[]⟩ = decide (decB a = ⟨#[]⟩ ∨ decB b = ⟨#[]⟩ ∨ decB c = ⟨#[]⟩ ∨ decB d = ⟨#[]⟩) := by
    unfold Lib.containsS Lib.idxOfS
    simp only [Lib.idxFromS]
    by_cases h0 : decB a = ⟨#[]⟩ <;> by_cases h1 : decB b = ⟨#[]⟩ <;> by_cases h2 : decB c = ⟨#[]⟩ <;> by_cases h3 : decB d = ⟨#[]⟩ <;> simp [h0, h1, h2, h3]
  rw [hc]
  by_cases h : decB a = ⟨#[]⟩ ∨ decB b = ⟨#[]⟩ ∨ decB c = ⟨#[]⟩ ∨ decB d = ⟨#[]⟩
  · rw [if_pos (by simpa using h), if_pos h]
  · have hk := key_len a b c d
    rw [if_neg (by simpa using h), if_neg h, if_pos ⟨by simp, by simpa using by omega⟩]
    rfl
theorem rd4 (a b c d : Int) : rd [a, b, c, d] 0 = a ∧ rd [a, b, c, d] 1 = b ∧ rd [a, b, c, d] 2 = c ∧ rd [a, b, c, d] 3 = d := ⟨rfl, rfl, rfl, rfl⟩
theorem ne_toList {s : ByteArray} : s.toList = [] ↔ s = ⟨#[]⟩ := ⟨fun h => ba_ext (by rw [Lib.toList_data] at h; exact h), fun h => by rw [h, Lib.toList_data]⟩
theorem refKey_val (a b c d : Int) (k : Nat) (hk : 60 ≤ k) : afterglowref14_Key.f k a b c d = some (keyB a b c d) := by
  obtain ⟨k, rfl⟩ : ∃ j, k = j + 45 := ⟨k - 45, by omega⟩
  obtain ⟨r0, r1, r2, r3⟩ := rd4 a b c d
  have ha := decB_size a
  have hb := decB_size b
  have hc := decB_size c
  have hd := decB_size d
  have step : ∀ (m : Nat) (x : Int) (i : Nat) (w : ByteArray), 40 ≤ m → rd [a, b, c, d] (i : Int) = x → i < 4 → w.size ≤ 60 →
      afterglowref14_Key.l0 (m + 1) [a, b, c, d] w (i : Int) = if decB x = ⟨#[]⟩ then some ⟨#[]⟩ else if i = 0 then afterglowref14_Key.l0 m [a, b, c, d] (w ++ decB x) ((i + 1 : Nat) : Int) else afterglowref14_Key.l0 m [a, b, c, d] ((w ++ (⟨#[46]⟩ : ByteArray)) ++ decB x) ((i + 1 : Nat) : Int) := by
    intro m x i w hm hx hi hw
    have hs := decB_size x
    rw [afterglowref14_Key.l0, if_pos (by omega), if_pos (by omega), if_pos (by simp; omega), hx, refDec_val x _ (by omega), Option.bind_some]
    by_cases h : decB x = ⟨#[]⟩
    · rw [if_pos (ne_toList.2 h), if_pos h]
    · rw [if_neg (fun e => h (ne_toList.1 e)), if_neg h, wrap_nat i (by omega)]
      by_cases h0 : i = 0
      · subst h0
        rw [if_neg (by omega), if_pos rfl, if_pos (by omega)]
      · rw [if_pos (by omega), if_neg h0, if_pos (by omega), if_pos (by rw [ByteArray.size_append]; show w.size + 1 + _ ≤ _; omega)]
  have h46 : (⟨#[46]⟩ : ByteArray).size = 1 := rfl
  unfold afterglowref14_Key.f keyB
  rw [show (0 : Int) = ((0 : Nat) : Int) from rfl, show k + 45 = (k + 44) + 1 from rfl, step (k + 44) a 0 _ (by omega) r0 (by omega) (by decide)]
  by_cases e0 : decB a = ⟨#[]⟩
  · rw [if_pos e0, if_pos (.inl e0)]
  rw [if_neg e0, if_pos rfl, show k + 44 = (k + 43) + 1 from rfl, step (k + 43) b 1 _ (by omega) r1 (by omega) (by rw [ByteArray.size_append]; show 0 + _ ≤ _; omega)]
  by_cases e1 : decB b = ⟨#[]⟩
  · rw [if_pos e1, if_pos (.inr (.inl e1))]
  rw [if_neg e1, if_neg (by omega), show k + 43 = (k + 42) + 1 from rfl, step (k + 42) c 2 _ (by omega) r2 (by omega) (by simp only [ByteArray.size_append, h46]; show 0 + _ + _ + _ ≤ _; omega)]
  by_cases e2 : decB c = ⟨#[]⟩
  · rw [if_pos e2, if_pos (.inr (.inr (.inl e2)))]
  rw [if_neg e2, if_neg (by omega), show k + 42 = (k + 41) + 1 from rfl, step (k + 41) d 3 _ (by omega) r3 (by omega) (by simp only [ByteArray.size_append, h46]; show 0 + _ + _ + _ + _ + _ ≤ _; omega)]
  by_cases e3 : decB d = ⟨#[]⟩
  · rw [if_pos e3, if_pos (.inr (.inr (.inr e3)))]
  rw [if_neg e3, if_neg (by omega), show k + 41 = (k + 40) + 1 from rfl, afterglowref14_Key.l0, if_neg (by omega), if_neg (by simp [e0, e1, e2, e3])]
  congr 1
  apply ba_ext
  simp [join_cons, join_single, ByteArray.data_append]
def finB (n : List Int) : List (List UInt8) → Int × Int × Int × Int × Bool
  | [] => if n.length = 4 then (rd n 0, rd n 1, rd n 2, rd n 3, true) else (0, 0, 0, 0, false)
  | p :: ps => if (undecB (ofL p)).2 = true then (if 4 ≤ n.length then (0, 0, 0, 0, false) else finB (n ++ [(undecB (ofL p)).1]) ps) else (0, 0, 0, 0, false)
def parseB (s : ByteArray) : Int × Int × Int × Int × Bool := finB [] (splitC 46 s.data.toList)
theorem Parse_val (s : ByteArray) (hs : s.size < 4294967281) : page_Parse.f s = some (parseB s) := by
  have hm : (Lib.splitB ⟨#[46]⟩ 0 (Lib.countB s ⟨#[46]⟩) s) = (splitC 46 s.data.toList).map ofL := by
    rw [← splitB_C, map_ofL]
  have hle : ∀ w ∈ splitC 46 s.data.toList, (ofL w).size ≤ 140737488351232 := fun w hw => by
    have h1 := splitC_piece 46 _ w hw
    have h2 := size_len s
    have h3 := ofL_size w
    omega
  unfold page_Parse.f strings_Split.f parseB
  rw [if_pos ⟨hs, by decide⟩, hm, Option.bind_some]
  have hne := splitC_ne 46 s.data.toList
  match hl : splitC 46 s.data.toList with
  | [] => exact absurd hl hne
  | [a] => simp [finB]
  | [a, b] => simp [finB]
  | [a, b, c] => simp [finB]
  | [a, b, c, d] =>
    rw [hl] at hle
    simp only [List.map_cons, List.map_nil]
    rw [Undec_val _ (hle a (by simp)), Undec_val _ (hle b (by simp)), Undec_val _ (hle c (by simp)), Undec_val _ (hle d (by simp))]
    simp only [Option.bind_some, finB]
    cases h0 : (undecB (ofL a)).2 <;> simp
    cases h1 : (undecB (ofL b)).2 <;> simp
    cases h2 : (undecB (ofL c)).2 <;> simp
    cases h3 : (undecB (ofL d)).2 <;> simp [rd]
  | a :: b :: c :: d :: e :: r =>
    simp only [List.map_cons, finB]
    cases (undecB (ofL a)).2 <;> simp
theorem refParse_loop (s : ByteArray) (hs : s.size ≤ 4294967281) (d : Nat) : ∀ (k i : Nat) (n : List Int) (w : List UInt8), i + d = s.size → 2 * d + 60 < k → (46 : UInt8) ∉ w → w.length ≤ i → n.length ≤ 4 →
    afterglowref14_Parse.l0 k s n (ofL w) (i : Int) = some (finB n (splitC 46 (w ++ s.data.toList.drop i))) := by
  have hsz : s.data.toList.length = s.size := Array.length_toList
  induction d with
  | zero =>
    intro k i n w hi hk hw hwi hn
    obtain ⟨k, rfl⟩ : ∃ j, k = j + 3 := ⟨k - 3, by omega⟩
    rw [List.drop_of_length_le (by omega), List.append_nil, splitC_none hw, afterglowref14_Parse.l0, if_pos (by omega), if_neg (by omega), afterglowref14_Parse.j1, if_neg (by decide), refUndec_val _ _ (by omega), Option.bind_some, finB]
    by_cases h : (undecB (ofL w)).2 = true
    · rw [if_pos h, if_pos h]
      by_cases h4 : 4 ≤ n.length
      · rw [if_pos (by omega), if_pos h4]
      · rw [if_neg (by omega), if_neg h4, if_pos (by omega), wrap_nat i (by omega), afterglowref14_Parse.l0, if_neg (by omega), finB]
        by_cases h5 : (n ++ [(undecB (ofL w)).1]).length = 4
        · rw [if_pos (by omega), if_pos (by omega), if_pos (by omega), if_pos (by omega), if_pos (by omega), if_pos h5]
        · rw [if_neg (by omega), if_neg h5]
    · rw [if_neg h, if_neg h]
  | succ d ih =>
    intro k i n w hi hk hw hwi hn
    obtain ⟨k, rfl⟩ : ∃ j, k = j + 2 := ⟨k - 2, by omega⟩
    have hil : i < s.data.toList.length := by omega
    rw [List.drop_eq_getElem_cons hil, afterglowref14_Parse.l0, if_pos (by omega), if_pos (by omega), if_pos (by omega), bt_nat s i (by omega), afterglowref14_Parse.j1]
    by_cases h46 : s.data.toList[i] = 46
    · rw [h46, if_neg (by decide), splitC_append _ hw, refUndec_val _ _ (by omega), Option.bind_some, finB]
      by_cases h : (undecB (ofL w)).2 = true
      · rw [if_pos h, if_pos h]
        by_cases h4 : 4 ≤ n.length
        · rw [if_pos (by omega), if_pos h4]
        · rw [if_neg (by omega), if_neg h4, if_pos (by omega), wrap_nat i (by omega)]
          have := ih k (i + 1) (n ++ [(undecB (ofL w)).1]) [] (by omega) (by omega) (by simp) (by simp) (by simp; omega)
          exact this
      · rw [if_neg h, if_neg h]
    · have hne : (((s.data.toList[i]).toNat : Int) != 46) = true := by
        rw [bne_iff_ne]
        intro e
        apply h46
        apply UInt8.toNat_inj.1
        have : (s.data.toList[i]).toNat = 46 := by omega
        rw [this]; rfl
      rw [hne, if_pos rfl, if_pos (by omega), wrap_nat i (by omega), if_pos (by omega), if_pos (by omega), Int.toNat_natCast, Int.toNat_natCast, extract_one s i hil, if_pos (by rw [ofL_size, ofL_size, List.length_singleton]; omega), ofL_append]
      have := ih k (i + 1) n (w ++ [s.data.toList[i]]) (by omega) (by omega) (by simp only [List.mem_append, List.mem_singleton, not_or]; exact ⟨hw, fun e => h46 e.symm⟩) (by simp; omega) hn
      rw [this, List.append_assoc]
      rfl
theorem refParse_val (s : ByteArray) (hs : s.size ≤ 4294967281) (k : Nat) (hk : 2 * s.size + 60 < k) : afterglowref14_Parse.f k s = some (parseB s) := by
  have := refParse_loop s hs s.size k 0 [] [] (by omega) hk (by simp) (by simp) (by simp)
  exact this
theorem decB_nil (n : Int) : decB n = ⟨#[]⟩ ↔ n < 0 ∨ 1099511627776 < n := by
  rcases decB_cases n with ⟨h, hn⟩ | ⟨u, rfl, hu, h⟩
  · exact ⟨fun _ => hn, fun _ => h⟩
  · rw [h]
    refine ⟨fun e => ?_, fun e => by omega⟩
    have := congrArg (fun z : ByteArray => z.data.toList) e
    simp at this
    exact absurd this (dec_ne_nil u)
theorem undecB_decB {n : Int} (h : decB n ≠ ⟨#[]⟩) : undecB (decB n) = (n, true) := by
  rcases decB_cases n with ⟨h1, _⟩ | ⟨u, rfl, hu, _⟩
  · exact absurd h1 h
  · exact undecB_dec hu
theorem decB_46 (n : Int) : (46 : UInt8) ∉ (decB n).data.toList := by
  rcases decB_cases n with ⟨h1, _⟩ | ⟨u, rfl, hu, h⟩
  · rw [h1]; simp
  · rw [h]
    intro hm
    have := dec_digit u 46 (by simpa using hm)
    exact absurd this.1 (by decide)
theorem parse_key {a b c d : Int} (h : keyB a b c d ≠ ⟨#[]⟩) : parseB (keyB a b c d) = (a, b, c, d, true) := by
  unfold keyB at h ⊢
  by_cases hn : decB a = ⟨#[]⟩ ∨ decB b = ⟨#[]⟩ ∨ decB c = ⟨#[]⟩ ∨ decB d = ⟨#[]⟩
  · rw [if_pos hn] at h; exact absurd rfl h
  · rw [if_neg hn]
    simp only [not_or] at hn
    obtain ⟨h0, h1, h2, h3⟩ := hn
    unfold parseB
    rw [show (ofL (Lib.join [(decB a).data.toList, (decB b).data.toList, (decB c).data.toList, (decB d).data.toList] [46])).data.toList = Lib.join [(decB a).data.toList, (decB b).data.toList, (decB c).data.toList, (decB d).data.toList] [46] from rfl,
      splitC_join (by simp) (fun w hw => by
        simp only [List.mem_cons, List.mem_nil_iff, or_false] at hw
        rcases hw with rfl | rfl | rfl | rfl <;> exact decB_46 _)]
    simp [finB, ofL_data, undecB_decB h0, undecB_decB h1, undecB_decB h2, undecB_decB h3, rd]
theorem key_ne {a b c d : Int} (ha : 0 ≤ a ∧ a ≤ 1099511627776) (hb : 0 ≤ b ∧ b ≤ 1099511627776) (hc : 0 ≤ c ∧ c ≤ 1099511627776) (hd : 0 ≤ d ∧ d ≤ 1099511627776) : keyB a b c d ≠ ⟨#[]⟩ := by
  unfold keyB
  rw [if_neg (by rw [decB_nil, decB_nil, decB_nil, decB_nil]; omega)]
  intro e
  have := congrArg (fun z : ByteArray => z.data.toList.length) e
  simp only [join_cons] at this
  simp at this
theorem key_parse {s : ByteArray} {a b c d : Int} (h : parseB s = (a, b, c, d, true)) : keyB a b c d = s ∧ keyB a b c d ≠ ⟨#[]⟩ := by
  unfold parseB at h
  have hj := join_splitC 46 s.data.toList
  match hl : splitC 46 s.data.toList with
  | [] => exact absurd hl (splitC_ne 46 _)
  | [w0] => rw [hl] at h; simp [finB] at h
  | [w0, w1] => rw [hl] at h; simp [finB] at h
  | [w0, w1, w2] => rw [hl] at h; simp [finB] at h
  | w0 :: w1 :: w2 :: w3 :: w4 :: r => rw [hl] at h; simp [finB] at h
  | [w0, w1, w2, w3] =>
    rw [hl] at h hj
    simp only [finB, List.length_nil, List.nil_append, List.length_append, List.length_cons] at h
    cases e0 : (undecB (ofL w0)).2 <;> rw [e0] at h <;> simp at h
    cases e1 : (undecB (ofL w1)).2 <;> rw [e1] at h <;> simp at h
    cases e2 : (undecB (ofL w2)).2 <;> rw [e2] at h <;> simp at h
    cases e3 : (undecB (ofL w3)).2 <;> rw [e3] at h <;> simp [rd] at h
    obtain ⟨rfl, rfl, rfl, rfl⟩ := h
    obtain ⟨d0, l0, u0⟩ := undecB_back (s := ofL w0) (m := (undecB (ofL w0)).1) (Prod.ext rfl e0)
    obtain ⟨d1, l1, u1⟩ := undecB_back (s := ofL w1) (m := (undecB (ofL w1)).1) (Prod.ext rfl e1)
    obtain ⟨d2, l2, u2⟩ := undecB_back (s := ofL w2) (m := (undecB (ofL w2)).1) (Prod.ext rfl e2)
    obtain ⟨d3, l3, u3⟩ := undecB_back (s := ofL w3) (m := (undecB (ofL w3)).1) (Prod.ext rfl e3)
    have hne := key_ne ⟨l0, u0⟩ ⟨l1, u1⟩ ⟨l2, u2⟩ ⟨l3, u3⟩
    refine ⟨?_, hne⟩
    unfold keyB at hne ⊢
    split
    · rename_i hh; rw [if_pos hh] at hne; exact absurd rfl hne
    · rw [d0, d1, d2, d3]
      apply ba_ext
      show Lib.join [w0, w1, w2, w3] [46] = _
      exact hj
theorem parse_empty : parseB ⟨#[]⟩ = (0, 0, 0, 0, false) := by
  unfold parseB
  simp [splitC, finB, undecB_empty]
end Go.Proofs.YtaedhehiifkcbaaDoor.PG
namespace Go.Proofs.YtaedhehiifkcbaaDoor.PG
open Go.RowKit Go.Proofs.YtaedhehiifkcbaaDoorW.PrintWords Go.Proofs.YtaedhehiifkcbaaDoorW.PrintLast Go.Proofs.YtaedhehiifkcbaaDoorW.PrintMore Go.Proofs.YtaedhehiifkcbaaDoor.Pl
def aheadP (x y : S39) : Prop := x.f0 < y.f0 ∨ x.f0 = y.f0 ∧ (x.f1 < y.f1 ∨ x.f1 = y.f1 ∧ (x.f2 < y.f2 ∨ x.f2 = y.f2 ∧ x.f3 < y.f3))
instance (x y : S39) : Decidable (aheadP x y) := by unfold aheadP; infer_instance
theorem ahead_trans {x y z : S39} (h : aheadP x y) (h' : aheadP y z) : aheadP x z := by
  unfold aheadP at *
  omega
theorem ahead_irrefl (x : S39) : ¬ aheadP x x := by
  unfold aheadP
  omega
def nw (x : S39) : S44 := ⟨⟨x.f0, x.f1⟩, x.f2, x.f3⟩
def od (x : S44) : S39 := ⟨x.f0.f0, x.f0.f1, x.f1, x.f2⟩
theorem od_nw (x : S39) : od (nw x) = x := rfl
def cmpI (a b : Int) : Int := if a < b then -1 else if a > b then 1 else 0
theorem Compare_val (a b : Int) : cmp_Compare_int.f a b = some (cmpI a b) := by
  unfold cmp_Compare_int.f cmp_isNaN_int.f cmpI
  simp
  split <;> (try split) <;> rfl
def orI : List Int → Int
  | [] => 0
  | x :: r => if x = 0 then orI r else x
def cmpS (x y : S39) : Int := orI [cmpI x.f0 y.f0, cmpI x.f1 y.f1, cmpI x.f2 y.f2, cmpI x.f3 y.f3]
theorem Or_loop (l : List Int) (hl : l.length ≤ 100) (d : Nat) : ∀ (k i : Nat), i + d = l.length → d < k → cmp_Or_int.l0 k 0 l (l.length : Int) (i : Int) = some (orI (l.drop i)) := by
  induction d with
  | zero =>
    intro k i hi hk
    obtain ⟨k, rfl⟩ : ∃ m, k = m + 1 := ⟨k - 1, by omega⟩
    rw [cmp_Or_int.l0, if_neg (by omega), List.drop_of_length_le (by omega)]; rfl
  | succ d ih =>
    intro k i hi hk
    obtain ⟨k, rfl⟩ : ∃ m, k = m + 1 := ⟨k - 1, by omega⟩
    have hil : i < l.length := by omega
    rw [cmp_Or_int.l0, if_pos (by omega), if_pos (by omega), if_pos (by omega), List.drop_eq_getElem_cons hil, orI, show rd l (i : Int) = l[i] from rdOf_nat 0 l i hil, wrap_nat i (by omega), ih k (i + 1) (by omega) (by omega)]
    split <;> rfl
theorem Cmp_val (x y : S44) (k : Nat) (hk : 5 ≤ k) : hist_Stay_Cmp.f k x.f0.f0 x.f0.f1 x.f1 x.f2 y.f0.f0 y.f0.f1 y.f1 y.f2 = some (cmpS (od x) (od y)) := by
  unfold hist_Stay_Cmp.f
  simp only [Compare_val, Option.bind_some]
  unfold cmp_Or_int.f
  have := Or_loop [cmpI x.f0.f0 y.f0.f0, cmpI x.f0.f1 y.f0.f1, cmpI x.f1 y.f1, cmpI x.f2 y.f2] (by simp) 4 k 0 (by simp) (by omega)
  rw [show ((0 : Nat) : Int) = 0 from rfl] at this
  rw [this, Option.bind_some]
  rfl
theorem cmpS_neg (x y : S39) : cmpS x y < 0 ↔ aheadP x y := by
  unfold cmpS aheadP cmpI
  simp only [orI]
  repeat' split
  all_goals omega
theorem cmpS_pos (x y : S39) : 0 < cmpS x y ↔ aheadP y x := by
  unfold cmpS aheadP cmpI
  simp only [orI]
  repeat' split
  all_goals omega
def risP (l : List S39) (j : Nat) : Bool := match l[j]? with
  | none => true
  | some y => decide (y.f0 < y.f1) && (match j with
    | 0 => true
    | i + 1 => match l[i]? with
      | none => true
      | some x => decide (aheadP x y))
def risB (l : List S39) : Bool := (List.range' 0 l.length).all (risP l)
theorem Rising_loop (l : List S39) (hl : l.length ≤ 1000000) (d : Nat) : ∀ (k i : Nat), i + d = l.length → d + 10 < k → hist_Rising.l0 k (l.map nw) (l.map nw) (l.length : Int) (i : Int) = some ((List.range' i d).all (risP l)) := by
  induction d with
  | zero =>
    intro k i hi hk
    obtain ⟨k, rfl⟩ : ∃ m, k = m + 1 := ⟨k - 1, by omega⟩
    rw [hist_Rising.l0, if_neg (by omega)]; rfl
  | succ d ih =>
    intro k i hi hk
    obtain ⟨k, rfl⟩ : ∃ m, k = m + 1 := ⟨k - 1, by omega⟩
    have hil : i < l.length := by omega
    obtain ⟨y, hg⟩ : ∃ y, l[i]? = some y := ⟨l[i], List.getElem?_eq_getElem hil⟩
    have hr : rd_T44 (l.map nw) (i : Int) = nw y := by unfold rd_T44; rw [Int.toNat_natCast, List.getD_eq_getElem?_getD, List.getElem?_map, hg]; rfl
    rw [hist_Rising.l0, if_pos (by omega), if_pos (by omega), if_pos (by rw [List.length_map]; omega), hr, List.range'_succ, List.all_cons]
    unfold span_Span_None.f
    rw [Option.bind_some]
    show (if decide (y.f1 ≤ y.f0) = true then _ else _) = _
    by_cases hv : y.f1 ≤ y.f0
    · rw [if_pos (by simpa using hv), show risP l i = false from by unfold risP; rw [hg]; simp; omega]; rfl
    · rw [if_neg (by simpa using hv), wrap_nat i (by omega)]
      cases i with
      | zero => rw [if_neg (by omega), ih k 1 (by omega) (by omega), show risP l 0 = true from by unfold risP; rw [hg]; simp; omega]; rfl
      | succ j =>
        obtain ⟨x, hx⟩ : ∃ x, l[j]? = some x := ⟨l[j], List.getElem?_eq_getElem (by omega)⟩
        have hj : rd_T44 (l.map nw) (j : Int) = nw x := by unfold rd_T44; rw [Int.toNat_natCast, List.getD_eq_getElem?_getD, List.getElem?_map, hx]; rfl
        rw [if_pos (by omega), show wrap64 (((j + 1 : Nat) : Int) - 1) = (j : Int) from by rw [w64 (by omega) (by omega)]; omega, if_pos (by omega), if_pos (by rw [List.length_map]; omega), hj, Cmp_val _ _ _ (by omega), Option.bind_some, ih k (j + 1 + 1) (by omega) (by omega), od_nw, od_nw, show risP l (j + 1) = decide (aheadP x y) from by unfold risP; rw [hg]; simp only [hx]; rw [decide_eq_true (show y.f0 < y.f1 by omega)]; rfl]
        have hc := cmpS_neg x y
        by_cases ha : aheadP x y
        · have := hc.2 ha
          rw [if_neg (by omega)]
          simp [ha]
        · have : ¬ cmpS x y < 0 := fun e => ha (hc.1 e)
          rw [if_pos (by omega)]
          simp [ha]
theorem Rising_val (l : List S39) (hl : l.length ≤ 1000000) (k : Nat) (hk : l.length + 10 < k) : hist_Rising.f k (l.map nw) = some (risB l) := by
  have := Rising_loop l hl l.length k 0 (by omega) hk
  unfold hist_Rising.f
  rw [List.length_map]
  exact this
end Go.Proofs.YtaedhehiifkcbaaDoor.PG
namespace Go.Proofs.YtaedhehiifkcbaaDoor.PG
open Go.RowKit Go.Proofs.YtaedhehiifkcbaaDoorW.PrintWords Go.Proofs.YtaedhehiifkcbaaDoorW.PrintLast Go.Proofs.YtaedhehiifkcbaaDoorW.PrintMore Go.Proofs.YtaedhehiifkcbaaDoor.Pl
abbrev St := S39
def keyS (x : St) : ByteArray := keyB x.f0 x.f1 x.f2 x.f3
def lastK (l : List St) : ByteArray := keyS (l.getLast?.getD ⟨0, 0, 0, 0⟩)
def pass (is : Bool) (fr x : St) : Bool := !is || decide (aheadP fr x)
def tellB (P : St → Bool) (m : Nat) (out : List St) (more : Bool) (r : List St) : List St × ByteArray × Int :=
  (out ++ (r.filter P).take (m - out.length), if more = true ∨ m < out.length + (r.filter P).length then lastK (out ++ (r.filter P).take (m - out.length)) else ⟨#[]⟩, 0)
def frOf (c : ByteArray) : St := ⟨(parseB c).1, (parseB c).2.1, (parseB c).2.2.1, (parseB c).2.2.2.1⟩
def isOf (c : ByteArray) : Bool := (parseB c).2.2.2.2
def mOf (n : Int) : Nat := if n < 1 then 1 else if 100 < n then 100 else n.toNat
theorem mOf_le (n : Int) : 1 ≤ mOf n ∧ mOf n ≤ 100 := by
  unfold mOf
  repeat' split
  all_goals omega
def okOf (l : List St) (c : ByteArray) : Bool := (isOf c || decide (c = ⟨#[]⟩)) && (risB l && l.all fun x => decide (keyS x ≠ ⟨#[]⟩))
def ofB (l : List St) (c : ByteArray) (n : Int) : List St × ByteArray × Int := if okOf l c = true then tellB (pass (isOf c) (frOf c)) (mOf n) [] false l else ([], ⟨#[]⟩, 140)
theorem m_new (n : Int) : mn (mx n 1) 100 = ((mOf n : Nat) : Int) := by
  unfold mx mn mOf
  repeat' split
  all_goals omega
theorem filter_rising (is : Bool) (fr : St) : ∀ l : List St, l.Pairwise aheadP → l.filter (pass is fr) = l.dropWhile (fun x => !pass is fr x)
  | [], _ => rfl
  | x :: r, h => by
    obtain ⟨h1, h2⟩ := List.pairwise_cons.1 h
    cases hp : pass is fr x with
    | false => rw [List.filter_cons, hp, List.dropWhile_cons, hp]; exact filter_rising is fr r h2
    | true =>
      rw [List.filter_cons, hp, List.dropWhile_cons, hp, if_pos rfl, if_neg (by simp)]
      congr 1
      rw [List.filter_eq_self]
      intro y hy
      have hxy := h1 y hy
      unfold pass at hp ⊢
      cases is with
      | false => rfl
      | true =>
        simp only [Bool.not_true, Bool.false_or, decide_eq_true_eq] at hp ⊢
        exact ahead_trans hp hxy
theorem rising_pairwise (l : List St) (h : risB l = true) : l.Pairwise aheadP := by
  have hadj : ∀ j x y, l[j]? = some x → l[j + 1]? = some y → aheadP x y := by
    intro j x y hx hy
    have hj : j + 1 < l.length := (List.getElem?_eq_some_iff.1 hy).1
    have := List.all_eq_true.1 h (j + 1) (by simp; omega)
    unfold risP at this
    rw [hy] at this
    simp only [hx, Bool.and_eq_true, decide_eq_true_eq] at this
    exact this.2
  have gen : ∀ (d i : Nat) x y, l[i]? = some x → l[i + d + 1]? = some y → aheadP x y := by
    intro d
    induction d with
    | zero => intro i x y hx hy; exact hadj i x y hx hy
    | succ d ih =>
      intro i x y hx hy
      have hlt : i + (d + 1) + 1 < l.length := (List.getElem?_eq_some_iff.1 hy).1
      obtain ⟨z, hz⟩ : ∃ z, l[i + d + 1]? = some z := ⟨l[i + d + 1], List.getElem?_eq_getElem (by omega)⟩
      exact ahead_trans (ih i x z hx hz) (hadj (i + d + 1) z y hz hy)
  rw [List.pairwise_iff_getElem]
  intro i j hi hj hij
  obtain ⟨d, rfl⟩ : ∃ d, j = i + d + 1 := ⟨j - i - 1, by omega⟩
  exact gen d i _ _ (List.getElem?_eq_getElem hi) (List.getElem?_eq_getElem hj)
theorem getD_nw (l : List St) (i : Nat) (y : St) (h : l[i]? = some y) : rd_T44 (l.map nw) (i : Int) = nw y := by
  unfold rd_T44
  rw [Int.toNat_natCast, List.getD_eq_getElem?_getD, List.getElem?_map, h]; rfl
theorem Of_tail (l : List St) (hl : l.length ≤ 1000000) (n : Int) (at_ : Nat) (ha : at_ ≤ l.length) (k : Nat) (hk : 1 ≤ k) : page_Of.j2 k (l.map nw) n (at_ : Int) =
    some (((l.drop at_).take (mOf n)).map nw, if mOf n < (l.drop at_).length then lastK ((l.drop at_).take (mOf n)) else ⟨#[]⟩, 0) := by
  obtain ⟨k, rfl⟩ : ∃ j, k = j + 1 := ⟨k - 1, by omega⟩
  obtain ⟨hm1, hm2⟩ := mOf_le n
  have he : mn ((l.map nw).length : Int) (wrap64 ((at_ : Int) + mn (mx n 1) 100)) = ((min l.length (at_ + mOf n) : Nat) : Int) := by
    rw [m_new, w64 (by omega) (by omega), List.length_map]
    unfold mn
    split <;> omega
  rw [page_Of.j2, he]
  unfold page_copied.f
  by_cases h : l.length ≤ at_ + mOf n
  · rw [if_pos (by rw [List.length_map]; omega), if_pos (by omega), if_pos (by rw [List.length_map]; omega), Int.toNat_natCast, if_pos (by simp; omega), Option.bind_some, ← List.map_drop, List.take_of_length_le (by simp; omega), if_neg (by simp; omega)]
  · have hlen : at_ + mOf n ≤ l.length := by omega
    obtain ⟨y, hy⟩ : ∃ y, l[at_ + mOf n - 1]? = some y := ⟨l[at_ + mOf n - 1], List.getElem?_eq_getElem (by omega)⟩
    rw [Nat.min_eq_right hlen, if_neg (by rw [List.length_map]; omega), if_pos (by omega), if_pos (by omega), if_pos (by rw [List.length_map]; omega), Int.toNat_natCast, Int.toNat_natCast, if_pos (by simp; omega), Option.bind_some,
      show wrap64 (((at_ + mOf n : Nat) : Int) - 1) = ((at_ + mOf n - 1 : Nat) : Int) from by rw [w64 (by omega) (by omega)]; omega, if_pos (by omega), if_pos (by rw [List.length_map]; omega), getD_nw l _ y hy, if_pos (by simp; omega)]
    have hk2 : page_Key.f (nw y).f0.f0 (nw y).f0.f1 (nw y).f1 (nw y).f2 = some (keyS y) := Key_val _ _ _ _
    have hdt : (l.take (at_ + mOf n)).drop at_ = (l.drop at_).take (mOf n) := by rw [List.drop_take]; congr 1; omega
    have hlast : lastK ((l.drop at_).take (mOf n)) = keyS y := by
      unfold lastK
      rw [List.getLast?_eq_getElem?, List.getElem?_take, List.getElem?_drop]
      simp only [List.length_take, List.length_drop]
      rw [if_pos (by omega), show at_ + (min (mOf n) (l.length - at_) - 1) = at_ + mOf n - 1 by omega, hy]; rfl
    rw [hk2, Option.bind_some, ← List.map_take, ← List.map_drop, hdt, hlast]
theorem dw_yes {is : Bool} {fr y : St} {r : List St} (h : pass is fr y = true) : (y :: r).dropWhile (fun x => !pass is fr x) = y :: r := by
  rw [List.dropWhile_cons, h]; rfl
theorem dw_no {is : Bool} {fr y : St} {r : List St} (h : pass is fr y = false) : (y :: r).dropWhile (fun x => !pass is fr x) = r.dropWhile (fun x => !pass is fr x) := by
  rw [List.dropWhile_cons, h]; rfl
theorem Of_loop (l : List St) (hl : l.length ≤ 1000000) (n : Int) (is : Bool) (fr : St) (d : Nat) : ∀ (k i : Nat), i + d = l.length → d + 20 < k →
    page_Of.l0 k (l.map nw) n is (i : Int) fr.f0 fr.f1 fr.f2 fr.f3 = some ((((l.drop i).dropWhile (fun x => !pass is fr x)).take (mOf n)).map nw, if mOf n < ((l.drop i).dropWhile (fun x => !pass is fr x)).length then lastK (((l.drop i).dropWhile (fun x => !pass is fr x)).take (mOf n)) else ⟨#[]⟩, 0) := by
  induction d with
  | zero =>
    intro k i hi hk
    obtain ⟨k, rfl⟩ : ∃ j, k = j + 1 := ⟨k - 1, by omega⟩
    have := Of_tail l hl n i (by omega) k (by omega)
    rw [page_Of.l0, if_neg (by rw [List.length_map]; omega), this, List.drop_of_length_le (by omega)]
    rfl
  | succ d ih =>
    intro k i hi hk
    obtain ⟨k, rfl⟩ : ∃ j, k = j + 1 := ⟨k - 1, by omega⟩
    have hil : i < l.length := by omega
    obtain ⟨y, hy⟩ : ∃ y, l[i]? = some y := ⟨l[i], List.getElem?_eq_getElem hil⟩
    have hdr : l.drop i = y :: l.drop (i + 1) := by
      rw [List.drop_eq_getElem_cons hil]
      congr 1
      have := List.getElem?_eq_getElem hil
      rw [hy] at this
      exact (Option.some.inj this).symm
    have hT := Of_tail l hl n i (by omega) k (by omega)
    rw [page_Of.l0, if_pos (by rw [List.length_map]; omega)]
    cases is with
    | false =>
      rw [if_neg (by simp), hT, hdr, dw_yes (by simp [pass])]
    | true =>
      have hc : hist_Stay_Cmp.f k (nw y).f0.f0 (nw y).f0.f1 (nw y).f1 (nw y).f2 fr.f0 fr.f1 fr.f2 fr.f3 = some (cmpS y fr) := Cmp_val (nw y) (nw fr) k (by omega)
      rw [if_pos rfl, if_pos (by omega), getD_nw l i y hy, hc, Option.bind_some]
      have hp := cmpS_pos y fr
      by_cases hle : cmpS y fr ≤ 0
      · rw [if_pos hle, wrap_nat i (by omega), ih k (i + 1) (by omega) (by omega), hdr, dw_no (by
          have : ¬ aheadP fr y := fun e => by have := hp.2 e; omega
          simp [pass, this])]
      · rw [if_neg hle, hT, hdr, dw_yes (by
          have : aheadP fr y := hp.1 (by omega)
          simp [pass, this])]
theorem keyless_val (x : St) : keyless (nw x) = some (decide (keyS x = ⟨#[]⟩)) := by
  unfold keyless page_Of_1.f
  rw [show page_Key.f (nw x).f0.f0 (nw x).f0.f1 (nw x).f1 (nw x).f2 = some (keyS x) from Key_val _ _ _ _, Option.bind_some]
  congr 1
  rw [Bool.eq_iff_iff, beq_iff_eq, decide_eq_true_iff]
  exact ne_toList
theorem Contains_val (l : List St) : slices_ContainsFunc_at_page_Of_1.f (l.map nw) = some (!(l.all fun x => decide (keyS x ≠ ⟨#[]⟩))) := by
  unfold slices_ContainsFunc_at_page_Of_1.f
  rw [if_pos (fun x hx => by
    obtain ⟨y, _, rfl⟩ := List.mem_map.1 hx
    rw [keyless_val]; rfl)]
  congr 1
  rw [List.any_map, List.not_all_eq_any_not]
  congr 1
  funext x
  show (keyless (nw x)).getD false = _
  rw [keyless_val]
  simp
theorem Of_val (l : List St) (hl : l.length ≤ 1000000) (c : ByteArray) (hc : c.size < 4294967281) (n : Int) (k : Nat) (hk : l.length + 40 < k) :
    page_Of.f k (l.map nw) c n = some ((ofB l c n).1.map nw, (ofB l c n).2.1, (ofB l c n).2.2) := by
  unfold page_Of.f
  rw [Parse_val c hc, Option.bind_some, Rising_val l hl k (by omega), Contains_val]
  obtain ⟨k, rfl⟩ : ∃ j, k = j + 1 := ⟨k - 1, by omega⟩
  have hj0 : page_Of.j0 (k + 1) (l.map nw) n (isOf c) true (frOf c).f0 (frOf c).f1 (frOf c).f2 (frOf c).f3 = some ([], ⟨#[]⟩, 140) := by rw [page_Of.j0, if_pos rfl]
  have hj1 : risB l = true → page_Of.j0 (k + 1) (l.map nw) n (isOf c) false (frOf c).f0 (frOf c).f1 (frOf c).f2 (frOf c).f3 = some ((tellB (pass (isOf c) (frOf c)) (mOf n) [] false l).1.map nw, (tellB (pass (isOf c) (frOf c)) (mOf n) [] false l).2.1, 0) := by
    intro hr
    have h := Of_loop l hl n (isOf c) (frOf c) l.length k 0 (by omega) (by omega)
    rw [List.drop_zero, ← filter_rising _ _ l (rising_pairwise l hr)] at h
    rw [page_Of.j0, if_neg (by simp)]
    refine h.trans ?_
    unfold tellB
    simp
  have hall : ∀ q : Bool, q = true → (isOf c || decide (c = ⟨#[]⟩)) = q →
      (if risB l = true then page_Of.j0 (k + 1) (l.map nw) n (isOf c) (!(l.all fun x => decide (keyS x ≠ ⟨#[]⟩))) (frOf c).f0 (frOf c).f1 (frOf c).f2 (frOf c).f3 else page_Of.j0 (k + 1) (l.map nw) n (isOf c) true (frOf c).f0 (frOf c).f1 (frOf c).f2 (frOf c).f3) = some ((ofB l c n).1.map nw, (ofB l c n).2.1, (ofB l c n).2.2) := by
    intro q hq h
    unfold ofB okOf
    rw [h, hq, Bool.true_and]
    cases hr : risB l with
    | false => rw [if_neg (by simp), hj0, Bool.false_and, if_neg (by simp)]; rfl
    | true =>
      rw [if_pos rfl, Bool.true_and]
      cases ha : (l.all fun x => decide (keyS x ≠ ⟨#[]⟩)) with
      | false => rw [if_neg (by simp)]; exact hj0
      | true => rw [if_pos rfl]; exact hj1 hr
  show (if isOf c = true then _ else _) = _
  cases hi : isOf c with
  | true =>
    have := hall true rfl (by rw [hi]; rfl)
    rw [hi] at this
    rw [if_pos rfl, Option.bind_some, show (parseB c).2.2.2.2 = true from hi]
    exact this
  | false =>
    rw [if_neg (by simp)]
    by_cases h0 : c = ⟨#[]⟩
    · have := hall true rfl (by rw [hi, decide_eq_true h0]; rfl)
      rw [hi] at this
      rw [if_pos (ne_toList.2 h0), Option.bind_some, show (parseB c).2.2.2.2 = false from hi]
      exact this
    · rw [hi] at hj0
      rw [if_neg (fun e => h0 (ne_toList.1 e)), show (parseB c).2.2.2.2 = false from hi]
      unfold ofB okOf
      rw [hi, decide_eq_false h0, Bool.false_or, Bool.false_and, if_neg (by simp)]
      exact hj0
end Go.Proofs.YtaedhehiifkcbaaDoor.PG
namespace Go.Proofs.YtaedhehiifkcbaaDoor.PG
open Go.RowKit Go.Proofs.YtaedhehiifkcbaaDoorW.PrintWords Go.Proofs.YtaedhehiifkcbaaDoorW.PrintLast Go.Proofs.YtaedhehiifkcbaaDoorW.PrintMore Go.Proofs.YtaedhehiifkcbaaDoor.Pl
def chunkF {α : Type} (m : Nat) : Nat → List α → List (List α)
  | 0, _ => []
  | k + 1, r => if m < r.length then r.take m :: chunkF m k (r.drop m) else [r]
theorem key_from {x : St} (h : keyS x ≠ ⟨#[]⟩) : isOf (keyS x) = true ∧ frOf (keyS x) = x := by
  have := parse_key h
  unfold isOf frOf
  rw [show parseB (keyS x) = (x.f0, x.f1, x.f2, x.f3, true) from this]
  exact ⟨rfl, rfl⟩
theorem filter_at (l : List St) (h : l.Pairwise aheadP) (j : Nat) (x : St) (hx : l[j]? = some x) : l.filter (pass true x) = l.drop (j + 1) := by
  induction l generalizing j with
  | nil => simp at hx
  | cons y r ih =>
    obtain ⟨h1, h2⟩ := List.pairwise_cons.1 h
    cases j with
    | zero =>
      obtain rfl : y = x := by simpa using hx
      rw [List.filter_cons, if_neg (by simp [pass, ahead_irrefl]), List.drop_succ_cons, List.drop_zero, List.filter_eq_self]
      intro z hz
      simpa [pass] using h1 z hz
    | succ j =>
      have hx' : r[j]? = some x := by simpa using hx
      have hm : x ∈ r := List.mem_of_getElem? hx'
      have hyx := h1 x hm
      have hn : ¬ aheadP x y := fun e => ahead_irrefl _ (ahead_trans hyx e)
      rw [List.filter_cons, if_neg (by simp [pass, hn]), List.drop_succ_cons]
      exact ih h2 j hx'
theorem all_go (l : List St) (hl : l.length ≤ 1000000) (n : Int) (hr : risB l = true) (hk : (l.all fun x => decide (keyS x ≠ ⟨#[]⟩)) = true) : ∀ (f j : Nat) (c : ByteArray), c.size < 4294967281 → j ≤ l.length → l.length - j < f →
    (l.filter (pass (isOf c) (frOf c)) = l.drop j) → (isOf c || decide (c = ⟨#[]⟩)) = true → page_All.go (l.map nw) n f c = some ((chunkF (mOf n) f (l.drop j)).map (·.map nw)) := by
  intro f
  induction f with
  | zero => intro j c _ _ h; omega
  | succ f ih =>
    intro j c hc hj hf hfil hok
    obtain ⟨hm1, hm2⟩ := mOf_le n
    have ho : ofB l c n = tellB (pass (isOf c) (frOf c)) (mOf n) [] false l := by
      unfold ofB okOf
      rw [hok, hr, hk]; rfl
    have ht : tellB (pass (isOf c) (frOf c)) (mOf n) [] false l = ((l.drop j).take (mOf n), if mOf n < (l.drop j).length then lastK ((l.drop j).take (mOf n)) else ⟨#[]⟩, 0) := by
      unfold tellB
      rw [hfil]
      simp
    rw [page_All.go, Of_val l hl c hc n _ (by rw [List.length_map]; omega), Option.bind_some, ho, ht, chunkF, if_pos rfl]
    by_cases hlt : mOf n < (l.drop j).length
    · have hlen : j + mOf n < l.length := by rw [List.length_drop] at hlt; omega
      obtain ⟨y, hy⟩ : ∃ y, l[j + mOf n - 1]? = some y := ⟨l[j + mOf n - 1], List.getElem?_eq_getElem (by omega)⟩
      have hlast : lastK ((l.drop j).take (mOf n)) = keyS y := by
        unfold lastK
        rw [List.getLast?_eq_getElem?, List.getElem?_take, List.getElem?_drop]
        simp only [List.length_take, List.length_drop]
        rw [if_pos (by omega), show j + (min (mOf n) (l.length - j) - 1) = j + mOf n - 1 by omega, hy]; rfl
      have hyk : keyS y ≠ ⟨#[]⟩ := by simpa using List.all_eq_true.1 hk y (List.mem_of_getElem? hy)
      obtain ⟨hi, hfr⟩ := key_from hyk
      rw [if_pos hlt, if_pos hlt, hlast, if_neg (fun e => hyk (ne_toList.1 e)), ih (j + mOf n) (keyS y) (by have := keyB_size y.f0 y.f1 y.f2 y.f3; unfold keyS; omega) (by omega) (by omega) (by rw [hi, hfr, filter_at l (rising_pairwise l hr) (j + mOf n - 1) y hy]; congr 1; omega) (by rw [hi]; rfl), Option.bind_some, List.drop_drop]
      rfl
    · rw [if_neg hlt, if_neg hlt, if_pos (ne_toList.2 rfl), List.take_of_length_le (by omega)]
      rfl
def allB (l : List St) (n : Int) : List (List St) := if okOf l ⟨#[]⟩ = true then chunkF (mOf n) (l.length + 2) l else []
theorem emp_is : isOf ⟨#[]⟩ = false := by unfold isOf; rw [parse_empty]
theorem All_val (l : List St) (hl : l.length ≤ 1000000) (n : Int) : page_All.f (l.map nw) n = some ((allB l n).map (·.map nw)) := by
  unfold page_All.f
  rw [if_pos (by rw [List.length_map]; omega), List.length_map]
  unfold allB
  cases ho : okOf l ⟨#[]⟩ with
  | false =>
    rw [page_All.go, Of_val l hl ⟨#[]⟩ (by decide) n _ (by rw [List.length_map]; omega), Option.bind_some]
    unfold ofB
    rw [ho, if_neg (by simp), if_neg (by decide)]
    rfl
  | true =>
    rw [if_pos rfl]
    unfold okOf at ho
    rw [emp_is, decide_eq_true rfl, Bool.false_or, Bool.true_and, Bool.and_eq_true] at ho
    refine (all_go l hl n ho.1 ho.2 (l.length + 2) 0 ⟨#[]⟩ (by decide) (by omega) (by omega) ?_ (by rw [emp_is]; rfl)).trans ?_
    · rw [emp_is, List.drop_zero, List.filter_eq_self]
      intro x _
      rfl
    · rw [List.drop_zero]
end Go.Proofs.YtaedhehiifkcbaaDoor.PG
namespace Go.Proofs.YtaedhehiifkcbaaDoor.PG
open Go.RowKit Go.Proofs.YtaedhehiifkcbaaDoorW.PrintWords Go.Proofs.YtaedhehiifkcbaaDoorW.PrintLast Go.Proofs.YtaedhehiifkcbaaDoorW.PrintMore Go.Proofs.YtaedhehiifkcbaaDoor.Pl
theorem dec_small (u : Nat) (h : u < 10) : decB (u : Int) = ofL [UInt8.ofNat (48 + u)] := by
  rw [decB_nat (by omega), Lib.decDigits, dif_pos h]
def s3 : St := ⟨3, 9, 1, 2⟩
def s4 : St := ⟨4, 9, 1, 2⟩
theorem d1 : decB 1 = ofL [49] := dec_small 1 (by omega)
theorem d2 : decB 2 = ofL [50] := dec_small 2 (by omega)
theorem d3 : decB 3 = ofL [51] := dec_small 3 (by omega)
theorem d4 : decB 4 = ofL [52] := dec_small 4 (by omega)
theorem d9 : decB 9 = ofL [57] := dec_small 9 (by omega)
theorem k3 : keyB 3 9 1 2 = (⟨#[51, 46, 57, 46, 49, 46, 50]⟩ : ByteArray) := by
  unfold keyB
  rw [d1, d2, d3, d9]
  decide +kernel
theorem k4 : keyB 4 9 1 2 = (⟨#[52, 46, 57, 46, 49, 46, 50]⟩ : ByteArray) := by
  unfold keyB
  rw [d1, d2, d4, d9]
  decide +kernel
theorem p3 : parseB (⟨#[51, 46, 57, 46, 49, 46, 50]⟩ : ByteArray) = (3, 9, 1, 2, true) := by
  rw [← k3]
  exact parse_key (by rw [k3]; decide)
theorem p0 : parseB (⟨#[51, 46, 57, 46, 49]⟩ : ByteArray) = (0, 0, 0, 0, false) := by
  have h : splitC 46 [51, 46, 57, 46, 49] = [[51], [57], [49]] := by decide +kernel
  unfold parseB
  show finB [] (splitC 46 [51, 46, 57, 46, 49]) = _
  rw [h]
  simp [finB]
theorem ok_row (c : ByteArray) (h : (isOf c || decide (c = ⟨#[]⟩)) = true) : okOf [s3, s4] c = true := by
  unfold okOf
  rw [h, Bool.true_and, Bool.and_eq_true]
  refine ⟨by decide +kernel, ?_⟩
  simp only [List.all_cons, List.all_nil, Bool.and_true, Bool.and_eq_true, decide_eq_true_eq]
  exact ⟨by unfold keyS s3; rw [k3]; decide, by unfold keyS s4; rw [k4]; decide⟩
theorem of_a : ofB [s3, s4] ⟨#[]⟩ 1 = ([s3], ⟨#[51, 46, 57, 46, 49, 46, 50]⟩, 0) := by
  unfold ofB
  rw [if_pos (ok_row _ (by rw [emp_is]; rfl)), emp_is]
  show ([s3], keyS s3, (0 : Int)) = _
  unfold keyS s3
  rw [k3]
theorem is3 : isOf (⟨#[51, 46, 57, 46, 49, 46, 50]⟩ : ByteArray) = true := by unfold isOf; rw [p3]
theorem fr3 : frOf (⟨#[51, 46, 57, 46, 49, 46, 50]⟩ : ByteArray) = s3 := by unfold frOf; rw [p3]; rfl
theorem of_b : ofB [s3, s4] ⟨#[51, 46, 57, 46, 49, 46, 50]⟩ 1 = ([s4], ⟨#[]⟩, 0) := by
  unfold ofB
  rw [if_pos (ok_row _ (by rw [is3]; rfl)), is3, fr3]
  unfold tellB
  rw [show [s3, s4].filter (pass true s3) = [s4] by simp [pass, aheadP, s3, s4]]
  rfl
theorem of_c : ofB [s3, s4] ⟨#[51, 46, 57, 46, 49]⟩ 1 = ([], ⟨#[]⟩, 140) := by
  unfold ofB okOf
  rw [show isOf (⟨#[51, 46, 57, 46, 49]⟩ : ByteArray) = false by unfold isOf; rw [p0], show decide ((⟨#[51, 46, 57, 46, 49]⟩ : ByteArray) = ⟨#[]⟩) = false by decide]
  rfl
theorem all_a : allB [s3, s4] 1 = [[s3], [s4]] := by
  unfold allB
  rw [if_pos (ok_row _ (by rw [emp_is]; rfl))]
  rfl
theorem all_0 : allB [] 1 = [[]] := by
  unfold allB
  rw [if_pos (by unfold okOf; rw [emp_is]; decide)]
  rfl
theorem alive14 (k : Nat) (hk : 1000 ≤ k) : afterglowlaw14_alive.f k = some true := by
  unfold afterglowlaw14_alive.f
  rw [Option.bind_some]
  rw [show ([(⟨(⟨3, 9⟩ : S42), 1, 2⟩ : S44), (⟨(⟨4, 9⟩ : S42), 1, 2⟩ : S44)] : List S44) = [s3, s4].map nw from rfl,
    Of_val _ (by decide) _ (by decide) 1 k (by simp; omega), of_a, Option.bind_some, Of_val _ (by decide) _ (by decide) 1 k (by simp; omega), of_b, Option.bind_some, Of_val _ (by decide) _ (by decide) 1 k (by simp; omega), of_c, Option.bind_some,
    Parse_val _ (by decide), p3, Option.bind_some, Key_val, k3, Option.bind_some, All_val _ (by decide) 1, all_a, show ([] : List S44) = ([] : List St).map nw from rfl, All_val _ (by decide) 1, all_0]
  simp [nw, s3, s4, rd_T44, Lib.toList_data]
end Go.Proofs.YtaedhehiifkcbaaDoor.PG
namespace Go.Proofs.YtaedhehiifkcbaaDoor
open Go.RowKit Go.Proofs.YtaedhehiifkcbaaDoorW.PrintWords Go.Proofs.YtaedhehiifkcbaaDoorW.PrintLast Go.Proofs.YtaedhehiifkcbaaDoorW.PrintMore Go.Proofs.YtaedhehiifkcbaaDoor.Pl Go.Proofs.YtaedhehiifkcbaaDoor.PG
theorem pure_PageKeys (a : Int) (_ : (Lit.int .i64 a).wf = true) (b : Int) (_ : (Lit.int .i64 b).wf = true) (c : Int) (_ : (Lit.int .i64 c).wf = true) (d : Int) (_ : (Lit.int .i64 d).wf = true) (s : ByteArray) (_ : s.size ≤ 140737488351232) : ∃ k, afterglowlaw14_PageKeys.f k a b c d s = some true := by
  refine ⟨100000, ?_⟩
  unfold afterglowlaw14_PageKeys.f
  by_cases h : (s.size : Int) > 200
  · rw [if_pos h, alive14 _ (by omega), Option.bind_some]
  rw [if_neg h]
  have hnew : afterglowlaw08_New.f a b c d = some (a, b, c, d) := by
    unfold afterglowlaw08_New.f afterglowlaw08_one.f
    rfl
  rw [hnew, Option.bind_some, Key_val, Option.bind_some, Parse_val s (by omega), Option.bind_some, refParse_val s (by omega) _ (by omega), Option.bind_some, refKey_val _ _ _ _ _ (by omega), Option.bind_some, if_pos rfl]
  unfold afterglowlaw08_Old.f
  rw [Option.bind_some, if_neg (by simp), bne_self, show (100000 : Nat) = 99999 + 1 from rfl, afterglowlaw14_PageKeys.j0, if_neg (by simp), Parse_val _ (Nat.lt_of_le_of_lt (keyB_size a b c d) (by omega)), Option.bind_some, alive14 _ (by omega), Option.bind_some, if_pos rfl]
  unfold afterglowlaw08_Old.f
  have hlast : (parseB s).2.2.2.2 = true → page_Key.f (parseB s).1 (parseB s).2.1 (parseB s).2.2.1 (parseB s).2.2.2.1 = some s := fun e => by
    rw [Key_val, (key_parse (Prod.ext rfl (Prod.ext rfl (Prod.ext rfl (Prod.ext rfl e))))).1]
  by_cases hk : keyB a b c d = ⟨#[]⟩
  · rw [hk, parse_empty, if_pos (by rw [Lib.toList_data]; decide), if_neg (by simp)]
    by_cases hi : (parseB s).2.2.2.2 = true
    · rw [if_pos hi, hlast hi, Option.bind_some]; simp
    · rw [if_neg hi]
  · rw [parse_key hk, if_pos (by rw [show ((keyB a b c d).toList != []) = true from bne_iff_ne.2 (fun e => hk (ne_toList.1 e))]; rfl), if_pos rfl, Option.bind_some, if_pos (by simp)]
    by_cases hi : (parseB s).2.2.2.2 = true
    · rw [if_pos hi, hlast hi, Option.bind_some]; simp
    · rw [if_neg hi]
end Go.Proofs.YtaedhehiifkcbaaDoor
namespace Go.Proofs.YtaedhehiifkcbaaDoor
open Go.ChangeShapes Go.WideShapes Go.ChangeAt Go.RowKit Go.Deep Go.Joins Go.Proofs.YtaedhehiifkcbaaDoorW.PrintWords Go.Proofs.YtaedhehiifkcbaaDoorW.PrintLast Go.Proofs.YtaedhehiifkcbaaDoorW.PrintMore
section
variable {H : Type} {enc : TypeId × Value → H} {P : Program} {W : World}
theorem struct_fields {t : TypeId} {fs : Array Field} {fuel : Nat} {cs : List Value} {x : DataW H × List MemPlace} (ht : P.underlying t = some (.struct fs)) (h : DataW.trod enc P W 0 (fun _ => true) true fuel t cs = some x) :
    cs.length = P.cellsOf t ∧ ∃ n, ∀ (i : Nat) (f : Field), fs[i]? = some f → ∃ y, DataW.trod enc P W 0 (fun _ => true) true n f.type ((cs.drop f.offset).take (P.cellsOf f.type)) = some y := by
  obtain ⟨xs, n, _, rfl, hl, hlen, hf⟩ := DataW.trod_struct ht h
  refine ⟨hl, n, fun i f hi => ?_⟩
  have := hf i f hi
  have hx : i < xs.length := by rw [hlen]; exact (Array.getElem?_eq_some_iff.1 hi).1
  exact ⟨xs[i], by rw [this]; exact List.getElem?_eq_getElem hx⟩
theorem struct_at {t : TypeId} {fs : Array Field} {fuel : Nat} {cs : List Value} {x : DataW H × List MemPlace} (ht : P.underlying t = some (.struct fs)) (h : DataW.trod enc P W 0 (fun _ => true) true fuel t cs = some x) :
    ∃ n, ∀ (i ft off k : Nat), (fs[i]?).map (fun f => (f.type, f.offset)) = some (ft, off) → P.cellsOf ft = k → ∃ y, DataW.trod enc P W 0 (fun _ => true) true n ft ((cs.drop off).take k) = some y := by
  obtain ⟨_, n, hf⟩ := struct_fields ht h
  refine ⟨n, fun i ft off k hi hk => ?_⟩
  obtain ⟨f, h1, h2⟩ := Option.map_eq_some_iff.1 hi
  obtain ⟨h3, h4⟩ := Prod.mk.injEq .. ▸ h2
  obtain ⟨y, hy⟩ := hf i f h1
  rw [h3, h4, hk] at hy
  exact ⟨y, hy⟩
end
end Go.Proofs.YtaedhehiifkcbaaDoor
