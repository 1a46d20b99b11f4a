-- Printed by a session's own turn of the kit's print (wip/xprint): Lean checks it.
import Derived.Test.YtaedhehiifkcbaaDoorPDx0
import Derived.Test.YtaedhehiifkcbaaDoorPDx6
import Derived.Test.YtaedhehiifkcbaaDoorShelf
namespace Go.Proofs.YtaedhehiifkcbaaDoor.PD
open Go.RowKit Go.Proofs.YtaedhehiifkcbaaDoorW.PrintWords Go.Proofs.YtaedhehiifkcbaaDoorW.PrintLast Go.Proofs.YtaedhehiifkcbaaDoorW.PrintMore
attribute [local go_sem] max2_int min2_int max_two min_two max_three min_three max_four min_four   -- for this text's walks alone
set_option linter.unusedVariables false
set_option linter.unusedSimpArgs false

/-! ### digits_Undec: function 20 -/
def digits_Undec.f (a0 : ByteArray) : Option (Int × Bool) :=
  if a0.size ≤ 140737488351232 then
    (match Lib.atoiAll a0.data.toList with
    | .ok v => (digits_Dec.f v).bind fun d => if d = a0 then some (v, true) else some (0, false)
    | _ => some (0, false))
  else none
theorem bytes_w_below (w : World) (t : TypeId) (s : ByteArray) : Below w.heap.size w (Lib.bytesWorld w t s) := bytes_below (Below.refl _ _) (Nat.le_refl _) t s
theorem toList_ne {d a0 : ByteArray} (h : ¬ d = a0) : ¬ d.toList = a0.toList := by
  rw [Lib.toList_data, Lib.toList_data]
  intro e
  apply h
  cases d; cases a0
  simpa using e
set_option maxHeartbeats 2000000 in
theorem digits_Undec.ok (a0 : ByteArray) (v : Int) (d : ByteArray) (w : World) (hG : Aside0 (Good w)) (hs : a0.size ≤ 140737488351232) (hv : Lib.atoiAll a0.data.toList = .ok v) (hd : digits_Dec.f v = some d) :
    Calls Tryd.prog 20 #[.string a0] w fun e w' => (e = .returned (.tuple #[.int .i64 (if d = a0 then v else 0), .bool (decide (d = a0))])) ∧ Below w.heap.size w w' := by
  have hne : a0.toList ≠ [] := by
    rw [Lib.toList_data]
    intro e
    rw [e] at hv
    simp [Lib.atoiAll] at hv
  have hA : ∀ W : World, Calls Tryd.prog 50 #[.string a0] W fun e w' => e = .returned (.tuple #[.int .i64 v, .nilIface]) ∧ Below W.heap.size W w' := fun W =>
    (Tryd.strconv_Atoi_ok a0 (by omega) v hv W).mono fun e w' ⟨he, hw⟩ => ⟨he, by
      rcases hw with rfl | ⟨t, rfl⟩
      · exact Below.refl _ _
      · exact bytes_w_below _ _ _⟩
  have HA := Lib.hid hA
  have HD := Aside0.mk hd
  clear hA hv hd
  have e1 : a0.toList.isEmpty = false := by simpa using hne
  by_cases hda : d = a0
  · subst hda
    have e3 : (d.toList != d.toList) = false := by simp
    go_enter Tryd.func20, Tryd.ntmps20
    go_wp2_with fail
    refine (HA.out _).mono ?_
    rintro e w1 ⟨rfl, hb1⟩
    have HB1 := Aside0.mk hb1
    clear hb1
    go_wp2_with fail
    refine (digits_Dec.calls v d _ ⟨Good.below hG.out HB1.out⟩ HD.out).mono ?_
    rintro e w2 ⟨rfl, hb2⟩
    have HB2 := Aside0.mk hb2
    clear hb2
    go_wp2_with fail
    go_ret2
    exact ⟨by simp, HB1.out.trans (HB2.out.mono HB1.out.size)⟩
  · have e3 : ¬ d.toList = a0.toList := toList_ne hda
    have e4 : (d.toList != a0.toList) = true := by simpa using e3
    have e5 : (d.toList == a0.toList) = false := by simpa using e3
    go_enter Tryd.func20, Tryd.ntmps20
    go_wp2_with fail
    refine (HA.out _).mono ?_
    rintro e w1 ⟨rfl, hb1⟩
    have HB1 := Aside0.mk hb1
    clear hb1
    go_wp2_with fail
    refine (digits_Dec.calls v d _ ⟨Good.below hG.out HB1.out⟩ HD.out).mono ?_
    rintro e w2 ⟨rfl, hb2⟩
    have HB2 := Aside0.mk hb2
    clear hb2
    go_wp2_with fail
    go_ret2
    exact ⟨by simp [hda], HB1.out.trans (HB2.out.mono HB1.out.size)⟩
set_option maxHeartbeats 2000000 in
theorem digits_Undec.err (a0 : ByteArray) (w : World) (hA : ∀ W : World, Good W → Calls Tryd.prog 50 #[.string a0] W fun e w' => ∃ (N : Nat) (x : Int) (t : TypeId), e = .returned (.tuple #[.int .i64 x, .iface t (.pointer (some ⟨N, 0, none⟩))]) ∧ Below W.heap.size W w') (hG : Aside0 (Good w)) :
    Calls Tryd.prog 20 #[.string a0] w fun e w' => e = .returned (.tuple #[.int .i64 0, .bool false]) ∧ Below w.heap.size w w' := by
  have HA := Lib.hid hA
  clear hA
  go_enter Tryd.func20, Tryd.ntmps20
  go_wp2_with fail
  refine (HA.out _ hG.out).mono ?_
  rintro e w1 ⟨N, x, t, rfl, hb1⟩
  have HB1 := Aside0.mk hb1
  clear hb1
  go_wp2_with fail
  go_ret2
  exact ⟨rfl, HB1.out⟩
theorem digits_Undec.calls (a0 : ByteArray) (r1 : Int) (r2 : Bool) (w : World) (hG : Aside0 (Good w)) (h : digits_Undec.f a0 = some (r1, r2)) :
    Calls Tryd.prog 20 #[.string a0] w fun e w' => e = .returned (.tuple #[.int .i64 r1, .bool r2]) ∧ Below w.heap.size w w' := by
  unfold digits_Undec.f at h
  split at h
  rotate_left
  · cases h
  rename_i hs
  rcases hv : Lib.atoiAll a0.data.toList with v | _ | _
  · rw [hv] at h
    obtain ⟨d, hd, h⟩ := Option.bind_eq_some_iff.1 h
    refine (digits_Undec.ok a0 v d w hG hs hv hd).mono fun e w' ⟨he, hb⟩ => ⟨?_, hb⟩
    by_cases hda : d = a0
    · rw [if_pos hda] at h
      obtain ⟨rfl, rfl⟩ := Prod.mk.inj (Option.some.inj h)
      simpa [hda] using he
    · rw [if_neg hda] at h
      obtain ⟨rfl, rfl⟩ := Prod.mk.inj (Option.some.inj h)
      simpa [hda] using he
  · rw [hv] at h
    obtain ⟨rfl, rfl⟩ := Prod.mk.inj (Option.some.inj h)
    refine digits_Undec.err a0 w (fun W g => ?_) hG
    obtain ⟨tp, p, h1⟩ := g.syn
    exact (Any.strconv_Atoi_syntax_var Tryd.laysC172 a0 (by omega) hv tp p W h1).mono fun e w' ⟨N, he, _, _, hb⟩ => ⟨N, _, _, he, hb⟩
  · rw [hv] at h
    obtain ⟨rfl, rfl⟩ := Prod.mk.inj (Option.some.inj h)
    refine digits_Undec.err a0 w (fun W g => ?_) hG
    obtain ⟨tp, p, h1⟩ := g.rng
    exact (Any.strconv_Atoi_range_var Tryd.laysC172 a0 (by omega) hv tp p W h1).mono fun e w' ⟨N, he, _, _, hb⟩ => ⟨N, _, _, he, hb⟩


end Go.Proofs.YtaedhehiifkcbaaDoor.PD
