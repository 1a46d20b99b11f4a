/- Plain laws of words and lines: lists of bytes alone. -/
import Derived.Test.YtaedhehiifkcbaaDoorPlHex
import Derived.Lib.Join
import Derived.Lib.Split
import Derived.Lib.SplitLaws
import Derived.Lib.IndexBytes
namespace Go.Proofs.YtaedhehiifkcbaaDoor.Pl

/-- The pieces of a row of bytes between a sign. -/
def splitC (c : UInt8) : List UInt8 → List (List UInt8)
  | [] => [[]]
  | b :: r => if b = c then [] :: splitC c r else match splitC c r with
    | [] => [[b]]
    | w :: ws => (b :: w) :: ws
theorem splitC_ne (c : UInt8) : ∀ l, splitC c l ≠ []
  | [] => by simp [splitC]
  | b :: r => by
    rw [splitC]
    split
    · simp
    · split <;> simp
theorem splitC_sep (c : UInt8) (r : List UInt8) : splitC c (c :: r) = [] :: splitC c r := by rw [splitC, if_pos rfl]
theorem splitC_other {c b : UInt8} (h : b ≠ c) {r : List UInt8} {w : List UInt8} {ws : List (List UInt8)} (e : splitC c r = w :: ws) : splitC c (b :: r) = (b :: w) :: ws := by
  rw [splitC, if_neg h, e]
theorem join_nil (s : List UInt8) : Lib.join [] s = [] := by simp [Lib.join, List.intercalate]
theorem join_single (x s : List UInt8) : Lib.join [x] s = x := by simp [Lib.join, List.intercalate]
theorem join_cons (x : List UInt8) (s y : List UInt8) (ys : List (List UInt8)) : Lib.join (x :: y :: ys) s = x ++ (s ++ Lib.join (y :: ys) s) := by
  simp [Lib.join, List.intercalate]
theorem join_head (b : UInt8) (w s : List UInt8) (ws : List (List UInt8)) : Lib.join ((b :: w) :: ws) s = b :: Lib.join (w :: ws) s := by
  cases ws with
  | nil => rw [join_single, join_single]
  | cons y ys => rw [join_cons, join_cons]; rfl
theorem join_splitC (c : UInt8) : ∀ l, Lib.join (splitC c l) [c] = l
  | [] => by rw [splitC, join_single]
  | b :: r => by
    have ih := join_splitC c r
    cases hs : splitC c r with
    | nil => exact absurd hs (splitC_ne c r)
    | cons w ws =>
      rw [hs] at ih
      by_cases h : b = c
      · subst h
        rw [splitC_sep, hs, join_cons, ih]; rfl
      · rw [splitC_other h hs, join_head, ih]
theorem splitC_mem (c : UInt8) : ∀ l, ∀ w ∈ splitC c l, c ∉ w
  | [] => by
    intro w hw
    rw [splitC, List.mem_singleton] at hw
    subst hw; simp
  | b :: r => by
    have ih := splitC_mem c r
    intro w hw
    cases hs : splitC c r with
    | nil => exact absurd hs (splitC_ne c r)
    | cons v vs =>
      by_cases h : b = c
      · subst h
        rw [splitC_sep, List.mem_cons] at hw
        rcases hw with rfl | hw
        · simp
        · exact ih w hw
      · rw [splitC_other h hs, List.mem_cons] at hw
        rcases hw with rfl | hw
        · have := ih v (by rw [hs]; simp)
          simp only [List.mem_cons, not_or]
          exact ⟨fun e => h e.symm, this⟩
        · exact ih w (by rw [hs]; simp [hw])
theorem splitC_none {c : UInt8} : ∀ {w : List UInt8}, c ∉ w → splitC c w = [w]
  | [], _ => rfl
  | b :: r, h => by
    simp only [List.mem_cons, not_or] at h
    exact splitC_other (fun e => h.1 e.symm) (splitC_none h.2)
theorem splitC_append {c : UInt8} : ∀ {w : List UInt8} (r : List UInt8), c ∉ w → splitC c (w ++ c :: r) = w :: splitC c r
  | [], r, _ => splitC_sep c r
  | b :: w, r, h => by
    simp only [List.mem_cons, not_or] at h
    rw [List.cons_append]
    exact splitC_other (fun e => h.1 e.symm) (splitC_append r h.2)
theorem splitC_join {c : UInt8} : ∀ {l : List (List UInt8)}, l ≠ [] → (∀ w ∈ l, c ∉ w) → splitC c (Lib.join l [c]) = l
  | [], h, _ => absurd rfl h
  | [w], _, h => by rw [join_single, splitC_none (h w (by simp))]
  | w :: v :: vs, _, h => by
    rw [join_cons]
    show splitC c (w ++ c :: Lib.join (v :: vs) [c]) = _
    rw [splitC_append _ (h w (by simp)), splitC_join (by simp) (fun x hx => h x (by simp [hx]))]
theorem splitC_len (c : UInt8) : ∀ l : List UInt8, (splitC c l).length = l.count c + 1
  | [] => rfl
  | b :: r => by
    have ih := splitC_len c r
    cases hs : splitC c r with
    | nil => exact absurd hs (splitC_ne c r)
    | cons v vs =>
      rw [hs] at ih
      by_cases h : b = c
      · subst h
        rw [splitC_sep, hs, List.length_cons, ih, List.count_cons_self]
      · rw [splitC_other h hs, List.count_cons_of_ne h]
        exact ih
theorem splitC_piece (c : UInt8) (l : List UInt8) (w : List UInt8) (h : w ∈ splitC c l) : w.length ≤ l.length := by
  have e := join_splitC c l
  rw [← e]
  generalize splitC c l = xs at h
  clear e
  induction xs with
  | nil => cases h
  | cons x t ih =>
    cases t with
    | nil =>
      rw [join_single]
      simp only [List.mem_singleton] at h
      rw [h]; exact Nat.le_refl _
    | cons y ys =>
      rw [join_cons, List.length_append, List.length_append]
      rcases List.mem_cons.1 h with rfl | h
      · omega
      · have := ih h
        omega
/-! the library's own pieces -/
theorem indexByte_first (c : UInt8) : ∀ (w r : List UInt8), c ∉ w → Lib.indexByte (w ++ c :: r) c = (w.length : Int)
  | [], r, _ => by
    rw [List.nil_append, Lib.indexByte, if_pos (by simp)]; rfl
  | b :: w, r, h => by
    simp only [List.mem_cons, not_or] at h
    rw [List.cons_append, Lib.indexByte, if_neg (by simpa using fun e => h.1 e.symm), indexByte_first c w r h.2, if_neg (by simp)]
    simp
theorem splitK_C (c : UInt8) : ∀ (k : Nat) (l : List UInt8), l.count c = k → Lib.splitK [c] 0 k l = splitC c l := by
  intro k
  induction k with
  | zero =>
    intro l h
    rw [Lib.splitK, splitC_none (List.count_eq_zero.1 h)]
  | succ k ih =>
    intro l h
    have hm : c ∈ l := List.count_pos_iff.1 (by omega)
    obtain ⟨w, r, rfl, hw⟩ := List.eq_append_cons_of_mem hm
    have hc : r.count c = k := by
      rw [List.count_append, List.count_cons_self, List.count_eq_zero.2 hw] at h
      omega
    have hi : Lib.index (w ++ c :: r) [c] = (w.length : Int) := by rw [Lib.index_one, indexByte_first c w r hw]
    rw [Lib.splitK, hi, if_neg (by simp), splitC_append r hw, Int.toNat_natCast, Nat.add_zero, List.take_left, List.length_singleton, List.drop_append, List.drop_of_length_le (by omega), show w.length + 1 - w.length = 1 by omega]
    congr 1
    exact ih r hc
theorem splitB_C (c : UInt8) (s : ByteArray) : (Lib.splitB ⟨#[c]⟩ 0 (Lib.countB s ⟨#[c]⟩) s).map (·.data.toList) = splitC c s.data.toList := by
  rw [Lib.splitB_data]
  refine splitK_C c _ _ ?_
  show _ = Lib.count s.data.toList [c]
  rw [Lib.count_one]
/-- A word. -/
def okw (w : List UInt8) : Bool := w.all (fun c => decide (33 ≤ c.toNat) && decide (c.toNat ≤ 126)) && !w.isEmpty
def lineS (l : List (List UInt8)) : List UInt8 := if l.all okw then Lib.join l [32] else []
def splitS (s : List UInt8) : List (List UInt8) := if (splitC 32 s).all okw then splitC 32 s else []
theorem okw_sp {w : List UInt8} (h : okw w = true) : (32 : UInt8) ∉ w := by
  intro hm
  unfold okw at h
  rw [Bool.and_eq_true] at h
  have := List.all_eq_true.1 h.1 _ hm
  revert this
  decide
theorem okw_ne {w : List UInt8} (h : okw w = true) : w ≠ [] := by
  rintro rfl
  cases h
theorem splitS_lineS {l : List (List UInt8)} (h : lineS l ≠ []) : splitS (lineS l) = l := by
  unfold lineS at h ⊢
  by_cases ha : l.all okw = true
  · rw [if_pos ha] at h ⊢
    have hl : l ≠ [] := by
      rintro rfl
      exact h (join_nil _)
    unfold splitS
    rw [splitC_join hl (fun w hw => okw_sp (List.all_eq_true.1 ha w hw)), if_pos ha]
  · rw [if_neg ha] at h
    exact absurd rfl h
theorem lineS_splitS {s : List UInt8} (h : splitS s ≠ []) : lineS (splitS s) = s := by
  unfold splitS at h ⊢
  by_cases ha : (splitC 32 s).all okw = true
  · rw [if_pos ha] at h ⊢
    unfold lineS
    rw [if_pos ha, join_splitC]
  · rw [if_neg ha] at h
    exact absurd rfl h
end Go.Proofs.YtaedhehiifkcbaaDoor.Pl
