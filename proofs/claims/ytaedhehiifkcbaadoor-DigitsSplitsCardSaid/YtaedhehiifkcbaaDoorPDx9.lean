-- Printed by a session's own turn of the kit's print (wip/xprint): Lean checks it.
import Derived.Test.YtaedhehiifkcbaaDoorPDx0
import Derived.Test.YtaedhehiifkcbaaDoorPDx8
import Derived.Test.YtaedhehiifkcbaaDoorShelf
namespace Go.Proofs.YtaedhehiifkcbaaDoor.PD
open Go.RowKit Go.Proofs.YtaedhehiifkcbaaDoorW.PrintWords Go.Proofs.YtaedhehiifkcbaaDoorW.PrintLast Go.Proofs.YtaedhehiifkcbaaDoorW.PrintMore
attribute [local go_sem] max2_int min2_int max_two min_two max_three min_three max_four min_four   -- for this text's walks alone
set_option linter.unusedVariables false
set_option linter.unusedSimpArgs false

/-! ### digits_Line: function 23 -/
def okc (c : UInt8) : Bool := decide (33 ≤ c.toNat) && decide (c.toNat ≤ 126)
def wordB (s : ByteArray) : Bool := s.data.toList.all okc && !s.data.toList.isEmpty
def lineB (l : List ByteArray) : ByteArray := ⟨(Lib.join (l.map (·.data.toList)) [32]).toArray⟩
def digits_Line.f (l0 : List ByteArray) : Option ByteArray :=
  if (∀ s ∈ l0, s.size ≤ 140737488351232) ∧ l0.length ≤ 140737488355328 ∧ (Lib.join (l0.map (·.data.toList)) [32]).length ≤ 140737488355328 then
    some (if l0.all wordB then lineB l0 else ⟨#[]⟩)
  else none
theorem size_len (s : ByteArray) : s.data.toList.length = s.size := by rw [Array.length_toList]; rfl
theorem bt_nat (s : ByteArray) (i : Nat) (h : i < s.data.toList.length) : bt s (i : Int) = ((s.data.toList[i]'h).toNat : Int) := by
  have h' : i < s.size := by rw [← size_len]; exact h
  unfold bt
  rw [dif_pos (by rw [Int.toNat_natCast]; exact h')]
  rfl
theorem wrap_nat (i : Nat) (h : i < 9223372036854775807) : wrap64 ((i : Int) + 1) = ((i + 1 : Nat) : Int) := by
  unfold wrap64
  omega
theorem okc_lt {c : UInt8} (h : (c.toNat : Int) < 33) : okc c = false := by
  unfold okc
  rw [decide_eq_false (by omega)]
  rfl
theorem okc_gt {c : UInt8} (h : (c.toNat : Int) > 126) : okc c = false := by
  unfold okc
  rw [decide_eq_false (p := c.toNat ≤ 126) (by omega), Bool.and_false]
theorem okc_in {c : UInt8} (h : ¬ (c.toNat : Int) < 33) (h' : ¬ (c.toNat : Int) > 126) : okc c = true := by
  unfold okc
  rw [decide_eq_true (by omega), decide_eq_true (by omega)]
  rfl
theorem word_loop (s : ByteArray) (hs : s.size ≤ 140737488351232) (d : Nat) : ∀ (k i : Nat), i + d = s.size → d < k →
    digits_word.l0 k s (s.size : Int) (i : Int) = some ((s.data.toList.drop i).all okc && !s.data.toList.isEmpty) := by
  have hlen := size_len s
  induction d with
  | zero =>
    intro k i hi hk
    obtain ⟨k, rfl⟩ : ∃ m, k = m + 1 := ⟨k - 1, by omega⟩
    simp only [digits_word.l0]
    rw [if_neg (by omega), List.drop_of_length_le (by omega), Lib.toList_data]
    cases s.data.toList <;> rfl
  | succ d ih =>
    intro k i hi hk
    obtain ⟨k, rfl⟩ : ∃ m, k = m + 1 := ⟨k - 1, by omega⟩
    have hil : i < s.data.toList.length := by omega
    simp only [digits_word.l0]
    rw [if_pos (by omega), if_pos (by omega), if_pos (by omega), bt_nat s i hil, List.drop_eq_getElem_cons hil, List.all_cons, wrap_nat i (by omega), ih k (i + 1) (by omega) (by omega)]
    by_cases h1 : ((s.data.toList[i]'hil).toNat : Int) < 33
    · rw [if_pos h1, okc_lt h1]; rfl
    · rw [if_neg h1]
      by_cases h2 : ((s.data.toList[i]'hil).toNat : Int) > 126
      · rw [if_pos h2, okc_gt h2]; rfl
      · rw [if_neg h2, okc_in h1 h2, Bool.true_and]
theorem word_some (s : ByteArray) (hs : s.size ≤ 140737488351232) : digits_Line_1.f (s.size + 1) s = some (!wordB s) := by
  unfold digits_Line_1.f digits_word.f
  rw [show (0 : Int) = ((0 : Nat) : Int) from rfl, word_loop s hs s.size (s.size + 1) 0 (by omega) (by omega)]
  rfl
abbrev SmallS := {s : ByteArray // s.size ≤ 140737488351232}
instance : Inhabited SmallS := ⟨⟨ByteArray.empty, Nat.zero_le _⟩⟩
theorem C_cells {w : World} {A0 : Option Addr} {l0 : List ByteArray} (hr0 : Kd.C Kd.string w A0 l0.length l0) (h0 : 0 < l0.length) :
    ∃ b o, A0 = some ⟨b, o, none⟩ ∧ b < w.heap.size ∧ ∀ (j : Nat) x, l0[j]? = some x → w.cell? ⟨b, o + j, none⟩ = some (.string x) := by
  obtain ⟨_, _, h⟩ := hr0
  obtain ⟨ad, rfl, hc⟩ := h h0
  have cell : ∀ (j : Nat) x, l0[j]? = some x → w.cell? (ad.add j) = some (.string x) := by
    intro j x hj
    obtain ⟨c, _, hk, hcell⟩ := hc j x hj
    have hk' : c = [Value.string x] := hk
    subst hk'
    have := hcell 0 _ rfl
    rw [Nat.add_zero, show Kd.string.sz = 1 from rfl, Nat.mul_one] at this
    exact this
  have h00 := cell 0 _ (List.getElem?_eq_getElem h0)
  have hsp : ad.spot = none := by
    have := World.cell?_spot h00
    simpa [Addr.add] using this
  obtain ⟨b, o, sp⟩ := ad
  simp only at hsp
  subst hsp
  refine ⟨b, o, rfl, ?_, fun j x hj => ?_⟩
  · have := cell_lt h00
    simpa [Addr.add] using this
  · have := cell j x hj
    unfold Addr.add at this
    split at this
    · rename_i hz; subst hz; simpa using this
    · exact this
theorem line_pred (w : World) : PredAt Tryd.prog 52 #[] (fun x : SmallS => .string x.val) (fun x => !wordB x.val) w := by
  intro W x _
  refine (digits_Line_1.calls (x.val.size + 1) x.val _ W (word_some x.val x.property)).mono fun e w' ⟨he, hd⟩ => ⟨he, hd.out⟩
theorem any_not (l : List ByteArray) : l.any (fun s => !wordB s) = !l.all wordB := by
  induction l with
  | nil => rfl
  | cons a t ih => rw [List.any_cons, List.all_cons, ih, Bool.not_and]
theorem line_contains (A0 : Option Addr) (c0 : Nat) (l0 : List ByteArray) (w : World) (hr0 : Kd.C Kd.string w A0 l0.length l0) (hs : ∀ s ∈ l0, s.size ≤ 140737488351232) :
    Calls Tryd.prog 51 #[.slice A0 l0.length c0, .func (.func 52) #[] #[]] w fun e w' => e = .returned (.bool (!l0.all wordB)) ∧ Below w.heap.size w w' := by
  rcases Nat.eq_zero_or_pos l0.length with h0 | h0
  · obtain rfl : l0 = [] := List.eq_nil_of_length_eq_zero h0
    exact (Tryd.slices_ContainsFunc_empty (α := SmallS) A0 c0 _ w).mono fun e w' ⟨he, hw⟩ => ⟨he, by subst hw; exact Below.refl _ _⟩
  · obtain ⟨b, o, rfl, hb, hc⟩ := C_cells hr0 h0
    have hm : l0.length ≤ 9223372036854775807 := hr0.2.1
    have hz : (l0.attach.map fun s => (⟨s.val, hs s.val s.property⟩ : SmallS)).length = l0.length := by simp
    have h := Tryd.slices_ContainsFunc (α := SmallS) (fun x => .string x.val) (fun x => !wordB x.val) 52 #[] (enters_of Tryd.func52 (by kernel_rfl) rfl) b o l0.length c0 (l0.attach.map fun s => (⟨s.val, hs s.val s.property⟩ : SmallS)) w (line_pred w) (by omega) hm (fun j hj => by
      have hj' : j < l0.length := by omega
      rw [hc j _ (List.getElem?_eq_getElem hj')]
      rw [getElem!_pos _ j hj]
      simp)
    refine h.mono fun e w' ⟨he, q, hw⟩ => ⟨?_, by subst hw; exact pw_below_drewN (Below.refl _ _) q⟩
    rw [he, ← hz, List.take_length, List.any_map, ← any_not]
    congr 2
    show (l0.attach.any fun s => !wordB s.val) = _
    rw [List.any_subtype (g := fun s => !wordB s) (fun s h => rfl), List.unattach_attach]
set_option maxHeartbeats 2000000 in
theorem digits_Line.calls (A0 : Option Addr) (c0 : Nat) (l0 : List ByteArray) (r : ByteArray) (w : World) (hr0 : Kd.C Kd.string w A0 l0.length l0) (hc0 : l0.length ≤ c0) (h : digits_Line.f l0 = some r) :
    Calls Tryd.prog 23 #[.slice A0 l0.length c0] w fun e w' => e = .returned (.string r) ∧ Below w.heap.size w w' := by
  unfold digits_Line.f at h
  split at h
  rotate_left
  · cases h
  rename_i hb
  obtain ⟨hs, hl, hj⟩ := hb
  have h1 := fun (W : World) (hr : Kd.C Kd.string W A0 l0.length l0) => line_contains A0 c0 l0 W hr hs
  have H1 := Lib.hid h1
  clear h1
  have HR := Aside0.mk hr0
  clear hr0
  cases hall : l0.all wordB with
  | true =>
    have h2 : ∀ (W : World), Kd.C Kd.string W A0 l0.length l0 → Calls Tryd.prog 54 #[.slice A0 l0.length c0, .string ⟨#[32]⟩] W fun e w' => e = .returned (.string (lineB l0)) ∧ Below W.heap.size W w' := by
      intro W hr
      rcases Nat.eq_zero_or_pos l0.length with h0 | h0
      · obtain rfl : l0 = [] := List.eq_nil_of_length_eq_zero h0
        exact (Tryd.strings_Join_none A0 c0 _ W).mono fun e w' ⟨he, hw⟩ => ⟨he, by subst hw; exact Below.refl _ _⟩
      · obtain ⟨b, o, rfl, hb, hc⟩ := C_cells hr h0
        exact Tryd.strings_Join b o c0 l0 ⟨#[32]⟩ W hc hb hl hc0 hj
    have H2 := Lib.hid h2
    rw [hall, if_pos rfl] at h
    obtain rfl := Option.some.inj h
    have h3 := H1.out
    rw [hall] at h3
    have H3 := Lib.hid h3
    clear h2 h3 h hs hl hj hc0 hall H1
    go_enter Tryd.func23, Tryd.ntmps23
    go_wp2_with fail
    refine (H3.out _ HR.out).mono ?_
    rintro e w1 ⟨rfl, hb1⟩
    have HB1 := Aside0.mk hb1
    clear hb1
    go_wp2_with fail
    refine (H2.out _ (Kd.C_below HR.out HB1.out)).mono ?_
    rintro e w2 ⟨rfl, hb2⟩
    have HB2 := Aside0.mk hb2
    clear hb2
    go_wp2_with fail
    go_ret
    exact ⟨rfl, HB1.out.trans (HB2.out.mono HB1.out.size)⟩
  | false =>
    rw [hall, if_neg (by simp)] at h
    obtain rfl := Option.some.inj h
    have h3 := H1.out
    rw [hall] at h3
    have H3 := Lib.hid h3
    clear h3 h hs hl hj hc0 hall H1
    go_enter Tryd.func23, Tryd.ntmps23
    go_wp2_with fail
    refine (H3.out _ HR.out).mono ?_
    rintro e w1 ⟨rfl, hb1⟩
    have HB1 := Aside0.mk hb1
    clear hb1
    go_wp2_with fail
    go_ret
    exact ⟨rfl, HB1.out⟩


end Go.Proofs.YtaedhehiifkcbaaDoor.PD
