/- What the printed functions of words and lines come to. Plain Lean. -/
import Derived.Test.YtaedhehiifkcbaaDoorPDx10
import Derived.Test.YtaedhehiifkcbaaDoorPDx11
import Derived.Test.YtaedhehiifkcbaaDoorPDx12
import Derived.Test.YtaedhehiifkcbaaDoorPDx13
import Derived.Test.YtaedhehiifkcbaaDoorPDx14
import Derived.Test.YtaedhehiifkcbaaDoorPDx9
import Derived.Test.YtaedhehiifkcbaaDoorPlHex
import Derived.Test.YtaedhehiifkcbaaDoorPlWords
import Derived.Test.YtaedhehiifkcbaaDoorPdHex
import Derived.Test.YtaedhehiifkcbaaDoorPdDec
namespace Go.Proofs.YtaedhehiifkcbaaDoor.PD
open Go.RowKit Go.Proofs.YtaedhehiifkcbaaDoorW.PrintWords Go.Proofs.YtaedhehiifkcbaaDoorW.PrintLast Go.Proofs.YtaedhehiifkcbaaDoorW.PrintMore Go.Proofs.YtaedhehiifkcbaaDoor.Pl

abbrev ofL (l : List UInt8) : ByteArray := ⟨l.toArray⟩
theorem ofL_data (s : ByteArray) : ofL s.data.toList = s := ba_ext (by simp)
theorem map_ofL (l : List ByteArray) : (l.map (·.data.toList)).map ofL = l := by
  rw [List.map_map]
  conv => rhs; rw [← List.map_id l]
  exact List.map_congr_left (fun s _ => ofL_data s)
theorem ofL_map (l : List (List UInt8)) : (l.map ofL).map (·.data.toList) = l := by
  rw [List.map_map]
  conv => rhs; rw [← List.map_id l]
  exact List.map_congr_left (fun s _ => by simp)
theorem ofL_size (l : List UInt8) : (ofL l).size = l.length := by simp [ByteArray.size]
theorem ofL_append (a b : List UInt8) : ofL a ++ ofL b = ofL (a ++ b) := by
  apply ByteArray.ext
  simp [ByteArray.data_append]
theorem wordB_eq (s : ByteArray) : wordB s = okw s.data.toList := rfl
theorem all_wordB (l : List ByteArray) : l.all wordB = (l.map (·.data.toList)).all okw := by rw [List.all_map]; rfl
def bulkL (l : List (List UInt8)) : Nat := (l.map fun w => w.length + 1).sum
theorem bulkL_cons (w : List UInt8) (l : List (List UInt8)) : bulkL (w :: l) = w.length + 1 + bulkL l := by simp [bulkL]
theorem bulkL_append (a b : List (List UInt8)) : bulkL (a ++ b) = bulkL a + bulkL b := by simp [bulkL]
theorem join_le (c : UInt8) : ∀ l : List (List UInt8), (Lib.join l [c]).length ≤ bulkL l
  | [] => by rw [join_nil]; exact Nat.zero_le _
  | [w] => by rw [join_single, bulkL_cons]; omega
  | w :: v :: vs => by
    have := join_le c (v :: vs)
    rw [join_cons, bulkL_cons, List.length_append, List.length_append, List.length_singleton]; omega
theorem len_le_bulk (l : List (List UInt8)) : l.length ≤ bulkL l := by
  induction l with
  | nil => exact Nat.zero_le _
  | cons w t ih => rw [bulkL_cons, List.length_cons]; omega
theorem mem_le_bulk {l : List (List UInt8)} {w : List UInt8} (h : w ∈ l) : w.length ≤ bulkL l := by
  induction l with
  | nil => cases h
  | cons v t ih =>
    rw [bulkL_cons]
    rcases List.mem_cons.1 h with rfl | h
    · omega
    · have := ih h; omega
theorem Line_val (l : List ByteArray) (hb : bulkL (l.map (·.data.toList)) ≤ 140737488351232) : digits_Line.f l = some (ofL (lineS (l.map (·.data.toList)))) := by
  unfold digits_Line.f
  have h1 := join_le 32 (l.map (·.data.toList))
  have h2 := len_le_bulk (l.map (·.data.toList))
  rw [List.length_map] at h2
  rw [if_pos ⟨fun s hs => by
    have := mem_le_bulk (List.mem_map_of_mem (f := fun s : ByteArray => s.data.toList) hs)
    rw [size_len] at this
    omega, by omega, by omega⟩, all_wordB]
  unfold lineS
  split <;> rfl
theorem bulk_split (c : UInt8) (l : List UInt8) : bulkL (splitC c l) = l.length + 1 := by
  induction l with
  | nil => rfl
  | cons b r ih =>
    cases hs : splitC c r with
    | nil => exact absurd hs (splitC_ne c r)
    | cons w ws =>
      rw [hs, bulkL_cons] at ih
      by_cases h : b = c
      · subst h
        rw [splitC_sep, hs, bulkL_cons, bulkL_cons, List.length_cons]
        simp only [List.length_nil]
        omega
      · rw [splitC_other h hs, bulkL_cons, List.length_cons, List.length_cons]; omega
theorem Split_val (s : ByteArray) (hs : s.size < 4294967281) : digits_Split.f s = some ((splitS s.data.toList).map ofL) := by
  unfold digits_Split.f strings_Split.f
  rw [if_pos ⟨hs, by decide⟩, Option.bind_some]
  have e := splitB_C 32 s
  generalize Lib.splitB ⟨#[32]⟩ 0 (Lib.countB s ⟨#[32]⟩) s = W at e
  have hb : bulkL (W.map (·.data.toList)) ≤ 140737488351232 := by
    have := size_len s
    rw [e, bulk_split]; omega
  rw [Line_val W hb, Option.bind_some, e, Lib.toList_data, Lib.toList_data]
  unfold splitS
  have hW : (splitC 32 s.data.toList).map ofL = W := by rw [← e, map_ofL]
  by_cases h0 : s.data.toList = []
  · rw [if_pos h0, h0]; rfl
  · rw [if_neg h0]
    by_cases ha : (splitC 32 s.data.toList).all okw = true
    · rw [if_pos ha]
      unfold lineS
      rw [if_pos ha, join_splitC, if_pos (by simp), hW]
    · rw [if_neg ha]
      unfold lineS
      rw [if_neg ha, if_neg (by simpa using fun e => h0 (by simpa using e.symm))]; rfl
theorem refWord_loop (s : ByteArray) (hs : s.size ≤ 140737488351232) (d : Nat) : ∀ (k i : Nat), i + d = s.size → d < k →
    afterglowref02_Word.l0 k s (i : Int) = some ((s.data.toList.drop i).all okc && !s.data.toList.isEmpty) := by
  have hlen := size_len s
  induction d with
  | zero =>
    intro k i hi hk
    obtain ⟨k, rfl⟩ : ∃ m, k = m + 1 := ⟨k - 1, by omega⟩
    simp only [afterglowref02_Word.l0]
    rw [if_neg (by omega), List.drop_of_length_le (by omega)]
    cases hl : s.data.toList with
    | nil => rw [hl] at hlen; rw [decide_eq_false (by simp at hlen; omega)]; rfl
    | cons a t => rw [hl] at hlen; rw [decide_eq_true (by simp at hlen; omega)]; rfl
  | succ d ih =>
    intro k i hi hk
    obtain ⟨k, rfl⟩ : ∃ m, k = m + 1 := ⟨k - 1, by omega⟩
    have hil : i < s.data.toList.length := by omega
    simp only [afterglowref02_Word.l0]
    rw [if_pos (by omega), if_pos (by omega), bt_nat s i hil, List.drop_eq_getElem_cons hil, List.all_cons, wrap_nat i (by omega), ih k (i + 1) (by omega) (by omega)]
    by_cases h1 : ((s.data.toList[i]'hil).toNat : Int) < 33
    · rw [if_pos h1, okc_lt h1]; rfl
    · rw [if_neg h1]
      by_cases h2 : ((s.data.toList[i]'hil).toNat : Int) > 126
      · rw [if_pos h2, okc_gt h2]; rfl
      · rw [if_neg h2, okc_in h1 h2, Bool.true_and]
theorem refWord_val (s : ByteArray) (hs : s.size ≤ 140737488351232) (k : Nat) (hk : s.size < k) : afterglowref02_Word.f k s = some (okw s.data.toList) := by
  unfold afterglowref02_Word.f
  exact refWord_loop s hs s.size k 0 (by omega) hk
theorem join_snoc (s w : List UInt8) : ∀ {xs : List (List UInt8)}, xs ≠ [] → Lib.join (xs ++ [w]) s = Lib.join xs s ++ (s ++ w)
  | [], h => absurd rfl h
  | [x], _ => by
    show Lib.join (x :: w :: []) s = _
    rw [join_cons, join_single, join_single]
  | x :: y :: ys, _ => by
    show Lib.join (x :: y :: (ys ++ [w])) s = _
    rw [join_cons, join_cons, show y :: (ys ++ [w]) = (y :: ys) ++ [w] from rfl, join_snoc s w (by simp)]
    simp
theorem rdOf_nat {α : Type} (z : α) (l : List α) (i : Nat) (h : i < l.length) : rdOf z l (i : Int) = l[i] := by
  unfold rdOf
  rw [Int.toNat_natCast, List.getD_eq_getElem?_getD, List.getElem?_eq_getElem h]; rfl
theorem refLine_loop (l : List ByteArray) (hb : bulkL (l.map (·.data.toList)) ≤ 140737488351232) (d : Nat) : ∀ (k i : Nat), i + d = l.length → d + 140737488351233 < k →
    ((l.map (·.data.toList)).take i).all okw = true →
    afterglowref02_Line.l0 k l (ofL (Lib.join ((l.map (·.data.toList)).take i) [32])) (i : Int) = some (ofL (lineS (l.map (·.data.toList)))) := by
  have hll := len_le_bulk (l.map (·.data.toList))
  rw [List.length_map] at hll
  induction d with
  | zero =>
    intro k i hi hk ha
    obtain ⟨k, rfl⟩ : ∃ m, k = m + 1 := ⟨k - 1, by omega⟩
    simp only [afterglowref02_Line.l0]
    rw [List.take_of_length_le (by rw [List.length_map]; omega)] at ha ⊢
    rw [if_neg (by omega)]
    unfold lineS
    rw [if_pos ha]
  | succ d ih =>
    intro k i hi hk ha
    obtain ⟨k, rfl⟩ : ∃ m, k = m + 1 := ⟨k - 1, by omega⟩
    have hil : i < l.length := by omega
    have him : i < (l.map (·.data.toList)).length := by rw [List.length_map]; exact hil
    have hm := mem_le_bulk (List.mem_map_of_mem (f := fun s : ByteArray => s.data.toList) (List.getElem_mem hil))
    rw [size_len] at hm
    have ht : (l.map (·.data.toList)).take (i + 1) = (l.map (·.data.toList)).take i ++ [(l[i]).data.toList] := by
      rw [List.take_succ_eq_append_getElem him, List.getElem_map]
    have hjl : bulkL ((l.map (·.data.toList)).take i) + (l[i].size + 1) ≤ 140737488351232 := by
      have e : bulkL (l.map (·.data.toList)) = bulkL ((l.map (·.data.toList)).take (i + 1)) + bulkL ((l.map (·.data.toList)).drop (i + 1)) := by rw [← bulkL_append, List.take_append_drop]
      rw [ht, bulkL_append, bulkL_cons, size_len] at e
      omega
    have hj := join_le 32 ((l.map (·.data.toList)).take i)
    simp only [afterglowref02_Line.l0]
    rw [if_pos (by omega), if_pos (by omega), rdOf_nat _ _ _ hil, refWord_val _ (by omega) k (by omega), Option.bind_some]
    by_cases hw : okw (l[i]).data.toList = true
    · rw [if_pos hw]
      have ha' : ((l.map (·.data.toList)).take (i + 1)).all okw = true := by rw [ht, List.all_append, ha]; simp [hw]
      have e := ih k (i + 1) (by omega) (by omega) ha'
      rw [ht] at e
      by_cases h0 : i = 0
      · subst h0
        rw [if_neg (by omega), if_pos (by rw [ofL_size]; omega), wrap_nat 0 (by omega)]
        rw [List.take_zero, join_nil]
        rw [List.take_zero, List.nil_append, join_single] at e
        rw [show ofL [] ++ l[0] = ofL (l[0]).data.toList from by rw [← ofL_data (l[0]), ofL_append]; simp]
        exact e
      · rw [if_pos (by omega), if_pos (by rw [ofL_size]; omega), wrap_nat i (by omega)]
        have h3 : ofL (Lib.join ((l.map (·.data.toList)).take i) [32]) ++ (⟨#[32]⟩ : ByteArray) = ofL (Lib.join ((l.map (·.data.toList)).take i) [32] ++ [32]) := ofL_append _ [32]
        rw [h3, if_pos (by rw [ofL_size, List.length_append, List.length_singleton]; omega)]
        rw [join_snoc [32] _ (by intro e0; have := congrArg List.length e0; rw [List.length_take, List.length_map, List.length_nil] at this; omega)] at e
        rw [show ofL (Lib.join ((l.map (·.data.toList)).take i) [32] ++ [32]) ++ l[i] = ofL (Lib.join ((l.map (·.data.toList)).take i) [32] ++ ([32] ++ (l[i]).data.toList)) from by
          conv => lhs; rw [← ofL_data (l[i]), ofL_append, List.append_assoc]]
        exact e
    · rw [if_neg hw]
      unfold lineS
      rw [if_neg]
      intro hall
      exact hw (List.all_eq_true.1 hall _ (List.mem_map_of_mem (f := fun s : ByteArray => s.data.toList) (List.getElem_mem hil)))
theorem refLine_val (l : List ByteArray) (hb : bulkL (l.map (·.data.toList)) ≤ 140737488351232) (k : Nat) (hk : 300000000000000 ≤ k) : afterglowref02_Line.f k l = some (ofL (lineS (l.map (·.data.toList)))) := by
  unfold afterglowref02_Line.f
  have hll := len_le_bulk (l.map (·.data.toList))
  rw [List.length_map] at hll
  have e := refLine_loop l hb l.length k 0 (by omega) (by omega) rfl
  rw [List.take_zero, join_nil] at e
  exact e
theorem toList_eq {a b : ByteArray} : a.toList = b.toList ↔ a = b := by
  rw [Lib.toList_data, Lib.toList_data]
  exact ⟨fun h => ba_ext h, fun h => by rw [h]⟩
theorem refSame_loop (a b : List ByteArray) (hl : a.length = b.length) (hm : a.length ≤ 9223372036854775806) (d : Nat) : ∀ (k i : Nat), i + d = a.length → d < k →
    afterglowref02_Same.l0 k a b (i : Int) = some (decide (a.drop i = b.drop i)) := by
  induction d with
  | zero =>
    intro k i hi hk
    obtain ⟨k, rfl⟩ : ∃ m, k = m + 1 := ⟨k - 1, by omega⟩
    simp only [afterglowref02_Same.l0]
    rw [if_neg (by omega), List.drop_of_length_le (by omega), List.drop_of_length_le (by omega), decide_eq_true rfl]
  | succ d ih =>
    intro k i hi hk
    obtain ⟨k, rfl⟩ : ∃ m, k = m + 1 := ⟨k - 1, by omega⟩
    have ha : i < a.length := by omega
    have hb : i < b.length := by omega
    simp only [afterglowref02_Same.l0]
    rw [if_pos (by omega), if_pos (by omega), if_pos (by omega), rdOf_nat _ _ _ ha, rdOf_nat _ _ _ hb, wrap_nat i (by omega), ih k (i + 1) (by omega) (by omega), List.drop_eq_getElem_cons ha, List.drop_eq_getElem_cons hb]
    by_cases he : a[i] = b[i]
    · rw [if_pos (toList_eq.2 he), he]
      simp only [List.cons.injEq, true_and]
    · rw [if_neg (fun e => he (toList_eq.1 e)), decide_eq_false (by simp only [List.cons.injEq, he, false_and, not_false_eq_true])]
theorem refSame_val (a b : List ByteArray) (hm : a.length ≤ 9223372036854775806) (k : Nat) (hk : a.length < k) : afterglowref02_Same.f k a b = some (decide (a = b)) := by
  unfold afterglowref02_Same.f
  by_cases hl : a.length = b.length
  · rw [if_pos (by omega)]
    have e := refSame_loop a b hl hm a.length k 0 (by omega) hk
    rw [List.drop_zero, List.drop_zero] at e
    exact e
  · rw [if_neg (by omega), decide_eq_false]
    intro e
    exact hl (by rw [e])
theorem extract_one (s : ByteArray) (i : Nat) (h : i < s.data.toList.length) : s.extract i (i + 1) = ofL [s.data.toList[i]'h] := by
  apply ba_ext
  rw [ByteArray.data_extract]
  rw [Array.toList_extract, List.extract_eq_take_drop, Nat.add_sub_cancel_left, List.drop_eq_getElem_cons h]
  rfl
theorem refSplit_loop (s : ByteArray) (hs : s.size ≤ 4294967281) (d : Nat) : ∀ (k i : Nat) (D : List (List UInt8)) (w : List UInt8), i + d = s.size → d + 400000000000000 < k → (32 : UInt8) ∉ w →
    splitC 32 s.data.toList = D ++ splitC 32 (w ++ s.data.toList.drop i) →
    afterglowref02_Split.l0 k s (D.map ofL) (ofL w) (i : Int) = some ((splitS s.data.toList).map ofL) := by
  have hlen := size_len s
  have hcount : (splitC 32 s.data.toList).length ≤ s.size + 1 := by
    have := len_le_bulk (splitC 32 s.data.toList)
    rw [bulk_split] at this
    omega
  induction d with
  | zero =>
    intro k i D w hi hk hw he
    obtain ⟨k, rfl⟩ : ∃ m, k = m + 1 := ⟨k - 1, by omega⟩
    simp only [afterglowref02_Split.l0]
    rw [List.drop_of_length_le (by omega), List.append_nil, splitC_none hw] at he
    have hD : D.length ≤ s.size := by rw [he, List.length_append, List.length_singleton] at hcount; omega
    rw [if_pos (by omega), if_neg (by omega), if_pos (by rw [List.length_map]; omega), wrap_nat i (by omega)]
    obtain ⟨k, rfl⟩ : ∃ m, k = m + 1 := ⟨k - 1, by omega⟩
    simp only [afterglowref02_Split.l0]
    rw [if_neg (by omega), show D.map ofL ++ [ofL w] = (splitC 32 s.data.toList).map ofL from by rw [he, List.map_append]; rfl,
      refLine_val _ (by rw [ofL_map, bulk_split]; omega) k (by omega), Option.bind_some, ofL_map, Lib.toList_data, Lib.toList_data]
    unfold splitS
    by_cases h0 : s.size = 0
    · rw [if_pos (by omega), List.eq_nil_of_length_eq_zero (show s.data.toList.length = 0 by omega)]; rfl
    · rw [if_neg (by omega)]
      by_cases ha : (splitC 32 s.data.toList).all okw = true
      · rw [if_pos ha]
        unfold lineS
        rw [if_pos ha, join_splitC, if_pos (by simp)]
      · rw [if_neg ha]
        unfold lineS
        rw [if_neg ha, if_neg]
        · rfl
        · intro e
          have : s.data.toList.length = 0 := by rw [← e]; rfl
          omega
  | succ d ih =>
    intro k i D w hi hk hw he
    obtain ⟨k, rfl⟩ : ∃ m, k = m + 1 := ⟨k - 1, by omega⟩
    have hil : i < s.data.toList.length := by omega
    have hD : D.length ≤ s.size := by
      have h1 : 0 < (splitC 32 (w ++ s.data.toList.drop i)).length := List.length_pos_iff.2 (splitC_ne _ _)
      rw [he, List.length_append] at hcount
      omega
    have hwl : w.length ≤ s.size := by
      have h1 := bulk_split 32 s.data.toList
      rw [he, bulkL_append, bulk_split, List.length_append] at h1
      omega
    simp only [afterglowref02_Split.l0]
    rw [if_pos (by omega), if_pos (by omega), if_pos (by omega), bt_nat s i hil]
    rw [List.drop_eq_getElem_cons hil] at he
    by_cases hc : s.data.toList[i] = 32
    · rw [hc, if_pos (by decide), if_pos (by rw [List.length_map]; omega), wrap_nat i (by omega), show D.map ofL ++ [ofL w] = (D ++ [w]).map ofL from by rw [List.map_append]; rfl]
      refine ih k (i + 1) (D ++ [w]) [] (by omega) (by omega) (by simp) ?_
      rw [hc, splitC_append _ hw] at he
      rw [he, List.nil_append, List.append_assoc]; rfl
    · rw [if_neg (by intro e; apply hc; apply UInt8.toNat_inj.1; have : (s.data.toList[i]).toNat = 32 := by omega
                     rw [this]; rfl), wrap_nat i (by omega), if_pos (by omega), if_pos (by omega), Int.toNat_natCast, Int.toNat_natCast, extract_one s i hil, if_pos (by rw [ofL_size, ofL_size, List.length_singleton]; omega), ofL_append]
      refine ih k (i + 1) D (w ++ [s.data.toList[i]]) (by omega) (by omega) ?_ ?_
      · simp only [List.mem_append, List.mem_singleton, not_or]
        exact ⟨hw, fun e => hc e.symm⟩
      · rw [he, List.append_assoc]; rfl
theorem refSplit_val (s : ByteArray) (hs : s.size ≤ 4294967281) (k : Nat) (hk : 800000000000000 ≤ k) : afterglowref02_Split.f k s = some ((splitS s.data.toList).map ofL) := by
  unfold afterglowref02_Split.f
  exact refSplit_loop s hs s.size k 0 [] [] (by omega) (by omega) (by simp) rfl
theorem dec20 : Lib.decDigits 20 = [50, 48] := by rw [Lib.decDigits_two (by omega) (by omega)]; rfl
theorem alive02 (k : Nat) (hk : 40 ≤ k) : afterglowlaw02_alive.f k = some true := by
  unfold afterglowlaw02_alive.f
  have u1 : undecB ⟨#[50, 48]⟩ = (20, true) := undecB_some (u := 20) (by omega) (by rw [dec20])
  have u2 : undecB ⟨#[48, 50, 48]⟩ = (0, false) := by
    unfold undecB
    rw [show decval 0 (⟨#[48, 50, 48]⟩ : ByteArray).data.toList = some 20 from rfl]
    show (if _ then _ else _) = _
    rw [dec20, if_neg (by decide)]
  have d20 : decB 20 = ⟨#[50, 48]⟩ := by rw [show (20 : Int) = ((20 : Nat) : Int) from rfl, decB_nat (by omega), dec20]
  rw [Unhex_val _ k (by omega), Option.bind_some, Undec_val _ (by decide), Option.bind_some, Undec_val _ (by decide), Option.bind_some, Split_val _ (by decide), Option.bind_some,
    Hex_val 255 4 (by omega) (by omega) k (by omega), Option.bind_some, Hex_val 256 2 (by omega) (by omega) k (by omega), u1, u2, Dec_val, d20, Line_val _ (by decide), Line_val _ (by decide), Split_val _ (by decide)]
  rw [show unhexB ⟨#[48, 48, 102, 102]⟩ = (255, true) from by decide +kernel, show hexB 255 4 = ⟨#[48, 48, 102, 102]⟩ from by decide +kernel, show hexB 256 2 = ⟨#[]⟩ from by decide +kernel]
  rw [show (splitS (⟨#[97, 32, 98]⟩ : ByteArray).data.toList) = [[97], [98]] from by decide +kernel, show (splitS (⟨#[97, 32, 32, 98]⟩ : ByteArray).data.toList) = [] from by decide +kernel,
    show lineS (([⟨#[97]⟩, ⟨#[98]⟩] : List ByteArray).map (·.data.toList)) = [97, 32, 98] from by decide +kernel, show lineS (([⟨#[97]⟩, ⟨#[]⟩] : List ByteArray).map (·.data.toList)) = [] from by decide +kernel]
  decide +kernel
end Go.Proofs.YtaedhehiifkcbaaDoor.PD
