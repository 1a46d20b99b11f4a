-- Printed by a session's own turn of the kit's print (wip/xprint): Lean checks it.
import Derived.Test.YtaedhehiifkcbaaDoorPDx0
import Derived.Test.YtaedhehiifkcbaaDoorPDx6
import Derived.Test.YtaedhehiifkcbaaDoorPDx7
import Derived.Test.YtaedhehiifkcbaaDoorPDx12
namespace Go.Proofs.YtaedhehiifkcbaaDoor.PD
open Go.RowKit Go.Proofs.YtaedhehiifkcbaaDoorW.PrintWords Go.Proofs.YtaedhehiifkcbaaDoorW.PrintLast Go.Proofs.YtaedhehiifkcbaaDoorW.PrintMore
attribute [local go_sem] max2_int min2_int max_two min_two max_three min_three max_four min_four   -- for this text's walks alone
set_option linter.unusedVariables false
set_option linter.unusedSimpArgs false

/-! ### afterglowref02_Undec: function 21 -/
mutual
def afterglowref02_Undec.j0 : Nat → ByteArray → Bool → Option (Int × Bool)
  | 0, _, _ => none
  | k + 1, x0, x13 => if x13 = true then (some (0, false)) else (afterglowref02_Undec.l0 k x0 0 0)
def afterglowref02_Undec.l0 : Nat → ByteArray → Int → Int → Option (Int × Bool)
  | 0, _, _, _ => none
  | k + 1, x0, x4, x5 => if x5 < (x0.size : Int) then (if 0 ≤ x5 then (if (bt x0 x5) < 48 then (some (0, false)) else (if (bt x0 x5) > 57 then (some (0, false)) else (afterglowref02_Undec.l0 k x0 (wrap64 ((wrap64 ((wrap64 (10 * x4)) + (wrap64 (bt x0 x5)))) - 48)) (wrap64 (x5 + 1))))) else (none)) else ((afterglowref02_Dec.f k x4).bind fun t157 => (if t157.toList = x0.toList then (some (x4, true)) else (some (0, false))))
end
def afterglowref02_Undec.f (k : Nat) (a0 : ByteArray) : Option (Int × Bool) := if (a0.size : Int) < 1 then (afterglowref02_Undec.j0 k a0 true) else (afterglowref02_Undec.j0 k a0 (decide ((a0.size : Int) > 13)))
theorem afterglowref02_Undec.mono_l : ∀ k, (∀ y0 y1, LeO (afterglowref02_Undec.j0 k y0 y1) (afterglowref02_Undec.j0 (k + 1) y0 y1)) ∧ (∀ y0 y1 y2, LeO (afterglowref02_Undec.l0 k y0 y1 y2) (afterglowref02_Undec.l0 (k + 1) y0 y1 y2))
  | 0 => ⟨fun _ _ r h => by simp [afterglowref02_Undec.j0] at h, fun _ _ _ r h => by simp [afterglowref02_Undec.l0] at h⟩
  | k + 1 => by
    obtain ⟨ih0, ih1⟩ := afterglowref02_Undec.mono_l k
    refine ⟨?_, ?_⟩
    · intro y0 y1
      unfold afterglowref02_Undec.j0
      repeat' first
      | (with_reducible exact ih0 _ _)
      | (with_reducible exact ih1 _ _ _)
      | (with_reducible exact afterglowref02_Dec.mono _ _)
      | (with_reducible exact LeO.refl _)
      | (with_reducible exact LeO.none _)
      | (with_reducible refine LeO.ite ?_ ?_)
      | (with_reducible refine LeO.bind ?_ (fun _ => ?_))
      | exact ih0 _ _
      | exact ih1 _ _ _
      | exact afterglowref02_Dec.mono _ _
      | exact LeO.none _
      | refine LeO.ite ?_ ?_
      | refine LeO.bind ?_ (fun _ => ?_)
    · intro y0 y1 y2
      unfold afterglowref02_Undec.l0
      repeat' first
      | (with_reducible exact ih0 _ _)
      | (with_reducible exact ih1 _ _ _)
      | (with_reducible exact afterglowref02_Dec.mono _ _)
      | (with_reducible exact LeO.refl _)
      | (with_reducible exact LeO.none _)
      | (with_reducible refine LeO.ite ?_ ?_)
      | (with_reducible refine LeO.bind ?_ (fun _ => ?_))
      | exact ih0 _ _
      | exact ih1 _ _ _
      | exact afterglowref02_Dec.mono _ _
      | exact LeO.none _
      | refine LeO.ite ?_ ?_
      | refine LeO.bind ?_ (fun _ => ?_)
theorem afterglowref02_Undec.mono : ∀ a0 k, LeO (afterglowref02_Undec.f k a0) (afterglowref02_Undec.f (k + 1) a0) := by
  intro a0 k
  obtain ⟨ih0, ih1⟩ := afterglowref02_Undec.mono_l k
  unfold afterglowref02_Undec.f
  repeat' first
      | (with_reducible exact ih0 _ _)
      | (with_reducible exact ih1 _ _ _)
      | (with_reducible exact afterglowref02_Dec.mono _ _)
      | (with_reducible exact LeO.refl _)
      | (with_reducible exact LeO.none _)
      | (with_reducible refine LeO.ite ?_ ?_)
      | (with_reducible refine LeO.bind ?_ (fun _ => ?_))
      | exact ih0 _ _
      | exact ih1 _ _ _
      | exact afterglowref02_Dec.mono _ _
      | exact LeO.none _
      | refine LeO.ite ?_ ?_
      | refine LeO.bind ?_ (fun _ => ?_)
set_option maxHeartbeats 8000000 in
set_option maxRecDepth 100000 in
theorem afterglowref02_Undec.calls (k : Nat) (a0 : ByteArray) (r1 : Int) (r2 : Bool) (w : World) (h : afterglowref02_Undec.f k a0 = some (r1, r2)) :
    Calls Tryd.prog 21 #[.string a0] w fun e w' => e = .returned (.tuple #[.int .i64 r1, .bool r2]) ∧ Below w.heap.size w w' := by
  have HB := Aside0.mk (Below.refl w.heap.size w)
  have H : (if (a0.size : Int) < 1 then (afterglowref02_Undec.j0 k a0 true) else (afterglowref02_Undec.j0 k a0 (decide ((a0.size : Int) > 13)))) = some (r1, r2) := h
  clear h
  have HC2 := Aside0.mk H
  clear H
  go_enter Tryd.func21, Tryd.ntmps21
  go_upto_region 1 with (fail)
  go_cut [13] (fun v13 wc => ∃ (kq : Nat) (x13_1 : Bool), v13 = .bool x13_1 ∧ Aside0 (afterglowref02_Undec.j0 kq a0 x13_1 = some (r1, r2)) ∧ Aside0 (kq ≤ k) ∧ Aside0 (Below w.heap.size w wc))
  case first =>
    have H := HC2.out
    clear HC2
    by_cases c3 : (a0.size : Int) < 1
    · rw [if_pos c3] at H
      have c3b0 : decide ((a0.size : Int) < 1) = true := decide_eq_true c3
      have c3b1 : decide (a0.size < 1) = true := decide_eq_true (by omega)
      clear c3
      (first | rw [c3b0] | (simp only [i64_w, i32_w]; rw [c3b0]) | skip)
      have H' := Aside0.mk H
      clear H
      go_wp2
      go_meet
      case rel => exact ⟨_, (true), (by first | rfl | (simp; done) | (simp [*]; done)), H', ⟨by first | omega | exact Nat.le_refl _⟩, ⟨by repeat (first | (with_reducible first | exact HB.out | apply below_alloc | apply pw_below_drewN | apply below_drew1) | exact HB.out)⟩⟩
    · rw [if_neg c3] at H
      have c3b0 : decide ((a0.size : Int) < 1) = false := decide_eq_false c3
      have c3b1 : decide (a0.size < 1) = false := decide_eq_false (by omega)
      clear c3
      (first | rw [c3b0] | (simp only [i64_w, i32_w]; rw [c3b0]) | skip)
      have H' := Aside0.mk H
      clear H
      go_wp2
      go_meet
      case rel => exact ⟨_, (decide ((a0.size : Int) > 13)), (by first | rfl | (simp; done) | (simp [*]; done)), H', ⟨by first | omega | exact Nat.le_refl _⟩, ⟨by repeat (first | (with_reducible first | exact HB.out | apply below_alloc | apply pw_below_drewN | apply below_drew1) | exact HB.out)⟩⟩
  case rest =>
    clear HC2
    try clear c2
    try clear p2
    try clear c3
    try clear c3b0
    try clear c3b1
    obtain ⟨kq, x13_1, rfl, HA, HJ1, HB⟩ := hcut
    cases kq with
    | zero => exact absurd HA.out (by simp [afterglowref02_Undec.j0])
    | succ kj1 =>
      have H := HA.out
      clear HA
      simp only [afterglowref02_Undec.j0] at H
      by_cases c4 : x13_1 = true
      · subst c4
        have H1 : (some (0, false)) = some (r1, r2) := by rw [if_pos rfl] at H; exact H
        clear H
        have H := H1
        clear H1
        simp only [Option.some.injEq, Prod.mk.injEq] at H
        obtain ⟨rfl, rfl⟩ := H
        go_wp2
        go_ret2
        exact ⟨by first | rfl | (simp [errW_none, errW_some] <;> rfl) | (simp [*, errW_none, errW_some] <;> rfl), by repeat (first | (with_reducible first | exact HB.out | apply below_alloc | apply pw_below_drewN | apply below_drew1) | exact HB.out)⟩
      · replace c4 := Bool.eq_false_iff.mpr c4
        subst c4
        have H1 : (afterglowref02_Undec.l0 kj1 a0 0 0) = some (r1, r2) := by rw [if_neg (show ¬ (false = true) by decide)] at H; exact H
        clear H
        have H := H1
        clear H1
        have H' := Aside0.mk H
        clear H
        go_wp2
        go_loopg [4, 5] kj1 (fun kq v4 v5 w' => ∃ (x4_2 : Int) (x5_2 : Int), v4 = .int .i64 x4_2 ∧ v5 = .int .i64 x5_2 ∧ Aside0 (afterglowref02_Undec.l0 kq a0 x4_2 x5_2 = some (r1, r2)) ∧ Aside0 (kq ≤ kj1) ∧ Aside0 (Below w.heap.size w w'))
        case atStart => exact ⟨(0), (0), (by first | rfl | (simp; done) | (simp [*]; done)), (by first | rfl | (simp; done) | (simp [*]; done)), H', ⟨Nat.le_refl _⟩, ⟨by repeat (first | (with_reducible first | exact HB.out | apply below_alloc | apply pw_below_drewN | apply below_drew1) | exact HB.out)⟩⟩
        case round =>
          clear H'
          try clear c2
          try clear p2
          try clear c3
          try clear c3b0
          try clear c3b1
          try clear c4
          try clear p2
          obtain ⟨x4_2, x5_2, rfl, rfl, HA, HK2, HB⟩ := hrel
          cases gk with
          | zero => exact absurd HA.out (by simp [afterglowref02_Undec.l0])
          | succ k2 =>
            have H := HA.out
            clear HA
            simp only [afterglowref02_Undec.l0] at H
            by_cases c5 : x5_2 < (a0.size : Int)
            · rw [if_pos c5] at H
              have c5b0 : decide (x5_2 < (a0.size : Int)) = true := decide_eq_true c5
              clear c5
              by_cases c6 : 0 ≤ x5_2
              · rw [if_pos c6] at H
                have c6b0 : decide (0 ≤ x5_2) = true := decide_eq_true c6
                clear c6
                by_cases c8 : (bt a0 x5_2) < 48
                · rw [if_pos c8] at H
                  have c8b0 : decide ((bt a0 x5_2) < 48) = true := decide_eq_true c8
                  clear c8
                  simp only [Option.some.injEq, Prod.mk.injEq] at H
                  obtain ⟨rfl, rfl⟩ := H
                  have p7 : 0 ≤ (x5_2 : Int) := of_decide_eq_true (by first | (with_reducible assumption) | assumption)
                  have q7 : x5_2 < (a0.size : Int) := of_decide_eq_true (by first | (with_reducible assumption) | assumption)
                  have hx7 := bt_at a0 x5_2
                  replace p7 := eq_true p7
                  replace q7 := eq_true q7
                  go_wp2
                  go_ret2
                  exact ⟨by first | rfl | (simp [errW_none, errW_some] <;> rfl) | (simp [*, errW_none, errW_some] <;> rfl), by repeat (first | (with_reducible first | exact HB.out | apply below_alloc | apply pw_below_drewN | apply below_drew1) | exact HB.out)⟩
                · rw [if_neg c8] at H
                  have c8b0 : decide ((bt a0 x5_2) < 48) = false := decide_eq_false c8
                  clear c8
                  by_cases c10 : (bt a0 x5_2) > 57
                  · rw [if_pos c10] at H
                    have c10b0 : decide (57 < (bt a0 x5_2)) = true := decide_eq_true c10
                    clear c10
                    simp only [Option.some.injEq, Prod.mk.injEq] at H
                    obtain ⟨rfl, rfl⟩ := H
                    have p7 : 0 ≤ (x5_2 : Int) := of_decide_eq_true (by first | (with_reducible assumption) | assumption)
                    have q7 : x5_2 < (a0.size : Int) := of_decide_eq_true (by first | (with_reducible assumption) | assumption)
                    have hx7 := bt_at a0 x5_2
                    replace p7 := eq_true p7
                    replace q7 := eq_true q7
                    have p9 : 0 ≤ (x5_2 : Int) := of_decide_eq_true (by first | (with_reducible assumption) | assumption)
                    have q9 : x5_2 < (a0.size : Int) := of_decide_eq_true (by first | (with_reducible assumption) | assumption)
                    have hx9 := bt_at a0 x5_2
                    replace p9 := eq_true p9
                    replace q9 := eq_true q9
                    go_wp2
                    go_ret2
                    exact ⟨by first | rfl | (simp [errW_none, errW_some] <;> rfl) | (simp [*, errW_none, errW_some] <;> rfl), by repeat (first | (with_reducible first | exact HB.out | apply below_alloc | apply pw_below_drewN | apply below_drew1) | exact HB.out)⟩
                  · rw [if_neg c10] at H
                    have c10b0 : decide (57 < (bt a0 x5_2)) = false := decide_eq_false c10
                    clear c10
                    have H' := Aside0.mk H
                    clear H
                    have p7 : 0 ≤ (x5_2 : Int) := of_decide_eq_true (by first | (with_reducible assumption) | assumption)
                    have q7 : x5_2 < (a0.size : Int) := of_decide_eq_true (by first | (with_reducible assumption) | assumption)
                    have hx7 := bt_at a0 x5_2
                    replace p7 := eq_true p7
                    replace q7 := eq_true q7
                    have p9 : 0 ≤ (x5_2 : Int) := of_decide_eq_true (by first | (with_reducible assumption) | assumption)
                    have q9 : x5_2 < (a0.size : Int) := of_decide_eq_true (by first | (with_reducible assumption) | assumption)
                    have hx9 := bt_at a0 x5_2
                    replace p9 := eq_true p9
                    replace q9 := eq_true q9
                    have p11 : 0 ≤ (x5_2 : Int) := of_decide_eq_true (by first | (with_reducible assumption) | assumption)
                    have q11 : x5_2 < (a0.size : Int) := of_decide_eq_true (by first | (with_reducible assumption) | assumption)
                    have hx11 := bt_at a0 x5_2
                    replace p11 := eq_true p11
                    replace q11 := eq_true q11
                    go_wp2
                    go_roundg k2
                    case measure => have := HJ1.out; have := HK2.out; omega
                    case rel => exact ⟨(wrap64 ((wrap64 ((wrap64 (10 * x4_2)) + (wrap64 (bt a0 x5_2)))) - 48)), (wrap64 (x5_2 + 1)), (by first | rfl | (simp; done) | (simp [*]; done)), (by first | rfl | (simp; done) | (simp [*]; done)), H', ⟨by have := HJ1.out; have := HK2.out; omega⟩, ⟨by repeat (first | (with_reducible first | exact HB.out | apply below_alloc | apply pw_below_drewN | apply below_drew1) | exact HB.out)⟩⟩
              · rw [if_neg c6] at H
                exact absurd H (by simp)
            · rw [if_neg c5] at H
              have c5b0 : decide (x5_2 < (a0.size : Int)) = false := decide_eq_false c5
              clear c5
              replace H := Option.bind_eq_some_iff.mp H
              obtain ⟨t157, A120, H⟩ := H
              replace H : (if t157.toList = a0.toList then (some (x4_2, true)) else (some (0, false))) = some (r1, r2) := H
              have A12 := Aside0.mk A120
              clear A120
              by_cases c13 : t157.toList = a0.toList
              · rw [if_pos c13] at H
                have c13b0 : (t157.toList == a0.toList) = true := beq_iff_eq.mpr c13
                have c13b1 : (t157.toList != a0.toList) = false := bne_eq_false_iff_eq.mpr c13
                clear c13
                simp only [Option.some.injEq, Prod.mk.injEq] at H
                obtain ⟨rfl, rfl⟩ := H
                go_wp2_with (first | ((with_reducible refine gate_callee (f := 22) rfl ?_); refine goesL_ (some 39) rfl rfl Tryd.func22 (by kernel_rfl) rfl #[.int .i64 x4_2] rfl (by (try simp only [List.map_toArray, List.map_cons, List.map_nil]); first | done | rfl | (simp only [List.length_drop, List.length_take]; rfl)) ?_; (with_reducible refine (afterglowref02_Dec.calls k2 x4_2 t157 _ A12.out).mono ?_); rintro e w14 ⟨rfl, hb⟩; refine ⟨_, rfl, ?_⟩; have n0_ := Aside0.mk (below_step (by repeat (first | (with_reducible first | exact HB.out | apply below_alloc | apply pw_below_drewN | apply below_drew1) | exact HB.out)) hb); clear HB; have HB := n0_; clear n0_; (try clear hb); (try clear hb2); (try clear hk); (try clear hi)))
                go_ret2
                exact ⟨by first | rfl | (simp [errW_none, errW_some] <;> rfl) | (simp [*, errW_none, errW_some] <;> rfl), by repeat (first | (with_reducible first | exact HB.out | apply below_alloc | apply pw_below_drewN | apply below_drew1) | exact HB.out)⟩
              · rw [if_neg c13] at H
                have c13b0 : (t157.toList == a0.toList) = false := beq_eq_false_iff_ne.mpr c13
                have c13b1 : (t157.toList != a0.toList) = true := bne_iff_ne.mpr c13
                simp only [Option.some.injEq, Prod.mk.injEq] at H
                obtain ⟨rfl, rfl⟩ := H
                go_wp2_with (first | ((with_reducible refine gate_callee (f := 22) rfl ?_); refine goesL_ (some 39) rfl rfl Tryd.func22 (by kernel_rfl) rfl #[.int .i64 x4_2] rfl (by (try simp only [List.map_toArray, List.map_cons, List.map_nil]); first | done | rfl | (simp only [List.length_drop, List.length_take]; rfl)) ?_; (with_reducible refine (afterglowref02_Dec.calls k2 x4_2 t157 _ A12.out).mono ?_); rintro e w15 ⟨rfl, hb⟩; refine ⟨_, rfl, ?_⟩; have n0_ := Aside0.mk (below_step (by repeat (first | (with_reducible first | exact HB.out | apply below_alloc | apply pw_below_drewN | apply below_drew1) | exact HB.out)) hb); clear HB; have HB := n0_; clear n0_; (try clear hb); (try clear hb2); (try clear hk); (try clear hi)))
                go_ret2
                exact ⟨by first | rfl | (simp [errW_none, errW_some] <;> rfl) | (simp [*, errW_none, errW_some] <;> rfl), by repeat (first | (with_reducible first | exact HB.out | apply below_alloc | apply pw_below_drewN | apply below_drew1) | exact HB.out)⟩

/-! ### afterglowlaw02_DigitsDec: function 4 -/
def afterglowlaw02_DigitsDec.j0 : Nat → Int → ByteArray → ByteArray → Int → Bool → Bool → Option (Bool)
  | 0, _, _, _, _, _, _ => none
  | k + 1, x0, x1, x5, x6, x7, x37 => if x37 = true then (some false) else ((digits_Undec.f x5).bind fun bt164 => ((afterglowlaw02_alive.f k).bind fun t166 => (if t166 = true then (if (bt164.2 == (x5.toList != ([] : List UInt8))) = true then (if bt164.2 = true then (if bt164.1 = x0 then (if x7 = true then ((digits_Dec.f x6).bind fun t167 => (some (t167.toList == x1.toList))) else (some true)) else (some false)) else (if x7 = true then ((digits_Dec.f x6).bind fun t168 => (some (t168.toList == x1.toList))) else (some true))) else (some false)) else (some false))))
def afterglowlaw02_DigitsDec.f (k : Nat) (a0 : Int) (a1 : ByteArray) : Option (Bool) := (digits_Dec.f a0).bind fun t158 => ((digits_Undec.f a1).bind fun bt159 => ((afterglowref02_Undec.f k a1).bind fun bt161 => ((afterglowref02_Dec.f k a0).bind fun t163 => (if t158.toList = t163.toList then (if bt159.1 = bt161.1 then (afterglowlaw02_DigitsDec.j0 k a0 a1 t158 bt159.1 bt159.2 (bt159.2 != bt161.2)) else (afterglowlaw02_DigitsDec.j0 k a0 a1 t158 bt159.1 bt159.2 true)) else (afterglowlaw02_DigitsDec.j0 k a0 a1 t158 bt159.1 bt159.2 true)))))
theorem afterglowlaw02_DigitsDec.mono_l : ∀ k, (∀ y0 y1 y2 y3 y4 y5, LeO (afterglowlaw02_DigitsDec.j0 k y0 y1 y2 y3 y4 y5) (afterglowlaw02_DigitsDec.j0 (k + 1) y0 y1 y2 y3 y4 y5))
  | 0 => fun _ _ _ _ _ _ r h => by simp [afterglowlaw02_DigitsDec.j0] at h
  | k + 1 => by
    have ih0 := afterglowlaw02_DigitsDec.mono_l k
    · intro y0 y1 y2 y3 y4 y5
      unfold afterglowlaw02_DigitsDec.j0
      repeat' first
      | (with_reducible exact ih0 _ _ _ _ _ _)
      | (with_reducible exact afterglowlaw02_alive.mono _)
      | (with_reducible exact afterglowref02_Dec.mono _ _)
      | (with_reducible exact afterglowref02_Undec.mono _ _)
      | (with_reducible exact LeO.refl _)
      | (with_reducible exact LeO.none _)
      | (with_reducible refine LeO.ite ?_ ?_)
      | (with_reducible refine LeO.bind ?_ (fun _ => ?_))
      | exact ih0 _ _ _ _ _ _
      | exact afterglowlaw02_alive.mono _
      | exact afterglowref02_Dec.mono _ _
      | exact afterglowref02_Undec.mono _ _
      | exact LeO.none _
      | refine LeO.ite ?_ ?_
      | refine LeO.bind ?_ (fun _ => ?_)
theorem afterglowlaw02_DigitsDec.mono : ∀ a0 a1 k, LeO (afterglowlaw02_DigitsDec.f k a0 a1) (afterglowlaw02_DigitsDec.f (k + 1) a0 a1) := by
  intro a0 a1 k
  have ih0 := afterglowlaw02_DigitsDec.mono_l k
  unfold afterglowlaw02_DigitsDec.f
  repeat' first
      | (with_reducible exact ih0 _ _ _ _ _ _)
      | (with_reducible exact afterglowlaw02_alive.mono _)
      | (with_reducible exact afterglowref02_Dec.mono _ _)
      | (with_reducible exact afterglowref02_Undec.mono _ _)
      | (with_reducible exact LeO.refl _)
      | (with_reducible exact LeO.none _)
      | (with_reducible refine LeO.ite ?_ ?_)
      | (with_reducible refine LeO.bind ?_ (fun _ => ?_))
      | exact ih0 _ _ _ _ _ _
      | exact afterglowlaw02_alive.mono _
      | exact afterglowref02_Dec.mono _ _
      | exact afterglowref02_Undec.mono _ _
      | exact LeO.none _
      | refine LeO.ite ?_ ?_
      | refine LeO.bind ?_ (fun _ => ?_)
set_option maxHeartbeats 8000000 in
set_option maxRecDepth 100000 in
theorem afterglowlaw02_DigitsDec.calls (k : Nat) (a0 : Int) (a1 : ByteArray) (r : Bool) (w : World) (hG : Aside0 (Good w)) (h : afterglowlaw02_DigitsDec.f k a0 a1 = some r) :
    Calls Tryd.prog 4 #[.int .i64 a0, .string a1] w fun e w' => e = .returned (.bool r) ∧ Below w.heap.size w w' := by
  have HB := Aside0.mk (Below.refl w.heap.size w)
  have H : ((digits_Dec.f a0).bind fun t158 => ((digits_Undec.f a1).bind fun bt159 => ((afterglowref02_Undec.f k a1).bind fun bt161 => ((afterglowref02_Dec.f k a0).bind fun t163 => (if t158.toList = t163.toList then (if bt159.1 = bt161.1 then (afterglowlaw02_DigitsDec.j0 k a0 a1 t158 bt159.1 bt159.2 (bt159.2 != bt161.2)) else (afterglowlaw02_DigitsDec.j0 k a0 a1 t158 bt159.1 bt159.2 true)) else (afterglowlaw02_DigitsDec.j0 k a0 a1 t158 bt159.1 bt159.2 true)))))) = some r := h
  clear h
  replace H := Option.bind_eq_some_iff.mp H
  obtain ⟨t158, A30, H⟩ := H
  replace H : ((digits_Undec.f a1).bind fun bt159 => ((afterglowref02_Undec.f k a1).bind fun bt161 => ((afterglowref02_Dec.f k a0).bind fun t163 => (if t158.toList = t163.toList then (if bt159.1 = bt161.1 then (afterglowlaw02_DigitsDec.j0 k a0 a1 t158 bt159.1 bt159.2 (bt159.2 != bt161.2)) else (afterglowlaw02_DigitsDec.j0 k a0 a1 t158 bt159.1 bt159.2 true)) else (afterglowlaw02_DigitsDec.j0 k a0 a1 t158 bt159.1 bt159.2 true))))) = some r := H
  have A3 := Aside0.mk A30
  clear A30
  replace H := Option.bind_eq_some_iff.mp H
  obtain ⟨⟨t159, t160⟩, A40, H⟩ := H
  replace H : ((afterglowref02_Undec.f k a1).bind fun bt161 => ((afterglowref02_Dec.f k a0).bind fun t163 => (if t158.toList = t163.toList then (if t159 = bt161.1 then (afterglowlaw02_DigitsDec.j0 k a0 a1 t158 t159 t160 (t160 != bt161.2)) else (afterglowlaw02_DigitsDec.j0 k a0 a1 t158 t159 t160 true)) else (afterglowlaw02_DigitsDec.j0 k a0 a1 t158 t159 t160 true)))) = some r := H
  have A4 := Aside0.mk A40
  clear A40
  replace H := Option.bind_eq_some_iff.mp H
  obtain ⟨⟨t161, t162⟩, A50, H⟩ := H
  replace H : ((afterglowref02_Dec.f k a0).bind fun t163 => (if t158.toList = t163.toList then (if t159 = t161 then (afterglowlaw02_DigitsDec.j0 k a0 a1 t158 t159 t160 (t160 != t162)) else (afterglowlaw02_DigitsDec.j0 k a0 a1 t158 t159 t160 true)) else (afterglowlaw02_DigitsDec.j0 k a0 a1 t158 t159 t160 true))) = some r := H
  have A5 := Aside0.mk A50
  clear A50
  have HC6 := Aside0.mk H
  clear H
  go_enter Tryd.func4, Tryd.ntmps4
  go_upto_region 4 with (first | ((with_reducible refine gate_callee (f := 19) rfl ?_); refine goesL_ (some 13) rfl rfl Tryd.func19 (by kernel_rfl) rfl #[.int .i64 a0] rfl (by (try simp only [List.map_toArray, List.map_cons, List.map_nil]); first | done | rfl | (simp only [List.length_drop, List.length_take]; rfl)) ?_; (with_reducible refine (digits_Dec.calls a0 t158 _ ?side1 A3.out).mono ?_); (case side1 => exact ⟨Good.below hG.out (by repeat (first | (with_reducible first | exact HB.out | apply below_alloc | apply pw_below_drewN | apply below_drew1) | exact HB.out))⟩); rintro e w7 ⟨rfl, hb⟩; refine ⟨_, rfl, ?_⟩; have n0_ := Aside0.mk (below_step (by repeat (first | (with_reducible first | exact HB.out | apply below_alloc | apply pw_below_drewN | apply below_drew1) | exact HB.out)) hb); clear HB; have HB := n0_; clear n0_; (try clear hb); (try clear hb2); (try clear hk); (try clear hi)) | ((with_reducible refine gate_callee (f := 20) rfl ?_); refine goesL_ (some 16) rfl rfl Tryd.func20 (by kernel_rfl) rfl #[.string a1] rfl (by (try simp only [List.map_toArray, List.map_cons, List.map_nil]); first | done | rfl | (simp only [List.length_drop, List.length_take]; rfl)) ?_; (with_reducible refine (digits_Undec.calls a1 t159 t160 _ ?side1 A4.out).mono ?_); (case side1 => exact ⟨Good.below hG.out (by repeat (first | (with_reducible first | exact HB.out | apply below_alloc | apply pw_below_drewN | apply below_drew1) | exact HB.out))⟩); rintro e w8 ⟨rfl, hb⟩; refine ⟨_, rfl, ?_⟩; have n0_ := Aside0.mk (below_step (by repeat (first | (with_reducible first | exact HB.out | apply below_alloc | apply pw_below_drewN | apply below_drew1) | exact HB.out)) hb); clear HB; have HB := n0_; clear n0_; (try clear hb); (try clear hb2); (try clear hk); (try clear hi)) | ((with_reducible refine gate_callee (f := 21) rfl ?_); refine goesL_ (some 21) rfl rfl Tryd.func21 (by kernel_rfl) rfl #[.string a1] rfl (by (try simp only [List.map_toArray, List.map_cons, List.map_nil]); first | done | rfl | (simp only [List.length_drop, List.length_take]; rfl)) ?_; (with_reducible refine (afterglowref02_Undec.calls k a1 t161 t162 _ A5.out).mono ?_); rintro e w9 ⟨rfl, hb⟩; refine ⟨_, rfl, ?_⟩; have n0_ := Aside0.mk (below_step (by repeat (first | (with_reducible first | exact HB.out | apply below_alloc | apply pw_below_drewN | apply below_drew1) | exact HB.out)) hb); clear HB; have HB := n0_; clear n0_; (try clear hb); (try clear hb2); (try clear hk); (try clear hi)))
  (try simp only [Act.put, List.setIfInBounds_toArray, List.set_cons_zero, List.set_cons_succ])
  go_cut [37] (fun v37 wc => ∃ (kq : Nat) (x37_5 : Bool), v37 = .bool x37_5 ∧ Aside0 (afterglowlaw02_DigitsDec.j0 kq a0 a1 t158 t159 t160 x37_5 = some r) ∧ Aside0 (kq ≤ k) ∧ Aside0 (Below w.heap.size w wc))
  case first =>
    have H := HC6.out
    clear HC6
    replace H := Option.bind_eq_some_iff.mp H
    obtain ⟨t163, A100, H⟩ := H
    replace H : (if t158.toList = t163.toList then (if t159 = t161 then (afterglowlaw02_DigitsDec.j0 k a0 a1 t158 t159 t160 (t160 != t162)) else (afterglowlaw02_DigitsDec.j0 k a0 a1 t158 t159 t160 true)) else (afterglowlaw02_DigitsDec.j0 k a0 a1 t158 t159 t160 true)) = some r := H
    have A10 := Aside0.mk A100
    clear A100
    by_cases c11 : t158.toList = t163.toList
    · rw [if_pos c11] at H
      have c11b0 : (t158.toList == t163.toList) = true := beq_iff_eq.mpr c11
      have c11b1 : (t158.toList != t163.toList) = false := bne_eq_false_iff_eq.mpr c11
      clear c11
      (first | rw [c11b0] | (simp only [i64_w, i32_w]; rw [c11b0]) | skip)
      by_cases c12 : t159 = t161
      · rw [if_pos c12] at H
        have c12b0 : (t159 == t161) = true := beq_iff_eq.mpr c12
        have c12b1 : (t159 != t161) = false := bne_eq_false_iff_eq.mpr c12
        clear c12
        have H' := Aside0.mk H
        clear H
        go_wp2_with (first | ((with_reducible refine gate_callee (f := 22) rfl ?_); refine goesL_ (some 26) rfl rfl Tryd.func22 (by kernel_rfl) rfl #[.int .i64 a0] rfl (by (try simp only [List.map_toArray, List.map_cons, List.map_nil]); first | done | rfl | (simp only [List.length_drop, List.length_take]; rfl)) ?_; (with_reducible refine (afterglowref02_Dec.calls k a0 t163 _ A10.out).mono ?_); rintro e w13 ⟨rfl, hb⟩; refine ⟨_, rfl, ?_⟩; have n0_ := Aside0.mk (below_step (by repeat (first | (with_reducible first | exact HB.out | apply below_alloc | apply pw_below_drewN | apply below_drew1) | exact HB.out)) hb); clear HB; have HB := n0_; clear n0_; (try clear hb); (try clear hb2); (try clear hk); (try clear hi)))
        go_meet
        case rel => exact ⟨_, ((t160 != t162)), (by first | rfl | (simp; done) | (simp [*]; done)), H', ⟨by first | omega | exact Nat.le_refl _⟩, ⟨by repeat (first | (with_reducible first | exact HB.out | apply below_alloc | apply pw_below_drewN | apply below_drew1) | exact HB.out)⟩⟩
      · rw [if_neg c12] at H
        have c12b0 : (t159 == t161) = false := beq_eq_false_iff_ne.mpr c12
        have c12b1 : (t159 != t161) = true := bne_iff_ne.mpr c12
        have H' := Aside0.mk H
        clear H
        go_wp2_with (first | ((with_reducible refine gate_callee (f := 22) rfl ?_); refine goesL_ (some 26) rfl rfl Tryd.func22 (by kernel_rfl) rfl #[.int .i64 a0] rfl (by (try simp only [List.map_toArray, List.map_cons, List.map_nil]); first | done | rfl | (simp only [List.length_drop, List.length_take]; rfl)) ?_; (with_reducible refine (afterglowref02_Dec.calls k a0 t163 _ A10.out).mono ?_); rintro e w14 ⟨rfl, hb⟩; refine ⟨_, rfl, ?_⟩; have n0_ := Aside0.mk (below_step (by repeat (first | (with_reducible first | exact HB.out | apply below_alloc | apply pw_below_drewN | apply below_drew1) | exact HB.out)) hb); clear HB; have HB := n0_; clear n0_; (try clear hb); (try clear hb2); (try clear hk); (try clear hi)))
        go_meet
        case rel => exact ⟨_, (true), (by first | rfl | (simp; done) | (simp [*]; done)), H', ⟨by first | omega | exact Nat.le_refl _⟩, ⟨by repeat (first | (with_reducible first | exact HB.out | apply below_alloc | apply pw_below_drewN | apply below_drew1) | exact HB.out)⟩⟩
    · rw [if_neg c11] at H
      have c11b0 : (t158.toList == t163.toList) = false := beq_eq_false_iff_ne.mpr c11
      have c11b1 : (t158.toList != t163.toList) = true := bne_iff_ne.mpr c11
      (first | rw [c11b0] | (simp only [i64_w, i32_w]; rw [c11b0]) | skip)
      have H' := Aside0.mk H
      clear H
      go_wp2_with (first | ((with_reducible refine gate_callee (f := 22) rfl ?_); refine goesL_ (some 26) rfl rfl Tryd.func22 (by kernel_rfl) rfl #[.int .i64 a0] rfl (by (try simp only [List.map_toArray, List.map_cons, List.map_nil]); first | done | rfl | (simp only [List.length_drop, List.length_take]; rfl)) ?_; (with_reducible refine (afterglowref02_Dec.calls k a0 t163 _ A10.out).mono ?_); rintro e w15 ⟨rfl, hb⟩; refine ⟨_, rfl, ?_⟩; have n0_ := Aside0.mk (below_step (by repeat (first | (with_reducible first | exact HB.out | apply below_alloc | apply pw_below_drewN | apply below_drew1) | exact HB.out)) hb); clear HB; have HB := n0_; clear n0_; (try clear hb); (try clear hb2); (try clear hk); (try clear hi)))
      go_meet
      case rel => exact ⟨_, (true), (by first | rfl | (simp; done) | (simp [*]; done)), H', ⟨by first | omega | exact Nat.le_refl _⟩, ⟨by repeat (first | (with_reducible first | exact HB.out | apply below_alloc | apply pw_below_drewN | apply below_drew1) | exact HB.out)⟩⟩
  case rest =>
    clear HC6
    try clear c1
    try clear c2
    try clear p2
    try clear c4
    try clear c11
    try clear c11b0
    try clear c11b1
    try clear c12
    try clear c12b0
    try clear c12b1
    obtain ⟨kq, x37_5, rfl, HA, HJ5, HB⟩ := hcut
    cases kq with
    | zero => exact absurd HA.out (by simp [afterglowlaw02_DigitsDec.j0])
    | succ kj5 =>
      have H := HA.out
      clear HA
      simp only [afterglowlaw02_DigitsDec.j0] at H
      by_cases c16 : x37_5 = true
      · subst c16
        have H1 : (some false) = some r := by rw [if_pos rfl] at H; exact H
        clear H
        have H := H1
        clear H1
        obtain rfl := Option.some.inj H
        go_wp2
        go_ret
        exact ⟨by first | rfl | (simp [errW_none, errW_some] <;> rfl) | (simp [*, errW_none, errW_some] <;> rfl), by repeat (first | (with_reducible first | exact HB.out | apply below_alloc | apply pw_below_drewN | apply below_drew1) | exact HB.out)⟩
      · replace c16 := Bool.eq_false_iff.mpr c16
        subst c16
        have H1 : ((digits_Undec.f t158).bind fun bt164 => ((afterglowlaw02_alive.f kj5).bind fun t166 => (if t166 = true then (if (bt164.2 == (t158.toList != ([] : List UInt8))) = true then (if bt164.2 = true then (if bt164.1 = a0 then (if t160 = true then ((digits_Dec.f t159).bind fun t167 => (some (t167.toList == a1.toList))) else (some true)) else (some false)) else (if t160 = true then ((digits_Dec.f t159).bind fun t168 => (some (t168.toList == a1.toList))) else (some true))) else (some false)) else (some false)))) = some r := by rw [if_neg (show ¬ (false = true) by decide)] at H; exact H
        clear H
        have H := H1
        clear H1
        replace H := Option.bind_eq_some_iff.mp H
        obtain ⟨⟨t164, t165⟩, A170, H⟩ := H
        replace H : ((afterglowlaw02_alive.f kj5).bind fun t166 => (if t166 = true then (if (t165 == (t158.toList != ([] : List UInt8))) = true then (if t165 = true then (if t164 = a0 then (if t160 = true then ((digits_Dec.f t159).bind fun t167 => (some (t167.toList == a1.toList))) else (some true)) else (some false)) else (if t160 = true then ((digits_Dec.f t159).bind fun t168 => (some (t168.toList == a1.toList))) else (some true))) else (some false)) else (some false))) = some r := H
        have A17 := Aside0.mk A170
        clear A170
        replace H := Option.bind_eq_some_iff.mp H
        obtain ⟨t166, A180, H⟩ := H
        replace H : (if t166 = true then (if (t165 == (t158.toList != ([] : List UInt8))) = true then (if t165 = true then (if t164 = a0 then (if t160 = true then ((digits_Dec.f t159).bind fun t167 => (some (t167.toList == a1.toList))) else (some true)) else (some false)) else (if t160 = true then ((digits_Dec.f t159).bind fun t168 => (some (t168.toList == a1.toList))) else (some true))) else (some false)) else (some false)) = some r := H
        have A18 := Aside0.mk A180
        clear A180
        by_cases c19 : t166 = true
        · subst c19
          have H1 : (if (t165 == (t158.toList != ([] : List UInt8))) = true then (if t165 = true then (if t164 = a0 then (if t160 = true then ((digits_Dec.f t159).bind fun t167 => (some (t167.toList == a1.toList))) else (some true)) else (some false)) else (if t160 = true then ((digits_Dec.f t159).bind fun t168 => (some (t168.toList == a1.toList))) else (some true))) else (some false)) = some r := by rw [if_pos rfl] at H; exact H
          clear H
          have H := H1
          clear H1
          by_cases c20 : (t165 == (t158.toList != ([] : List UInt8))) = true
          · rw [if_pos c20] at H
            have c20b0 : (t165 == (t158.toList != ([] : List UInt8))) = true := c20
            (try (have c20b1 : decide (t165 = (t158.toList != ([] : List UInt8))) = true := by simpa using c20))
            (try (have c20b2 : (t165 == (t158.toList != ([] : List UInt8))) = true := by simpa using c20))
            have c20b7 := (eq_bne_pos c20).1
            have c20b8 := (eq_bne_pos c20).2
            clear c20
            by_cases c21 : t165 = true
            · subst c21
              have H1 : (if t164 = a0 then (if t160 = true then ((digits_Dec.f t159).bind fun t167 => (some (t167.toList == a1.toList))) else (some true)) else (some false)) = some r := by rw [if_pos rfl] at H; exact H
              clear H
              have H := H1
              clear H1
              by_cases c22 : t164 = a0
              · rw [if_pos c22] at H
                have c22b0 : (t164 == a0) = true := beq_iff_eq.mpr c22
                have c22b1 : (t164 != a0) = false := bne_eq_false_iff_eq.mpr c22
                clear c22
                by_cases c23 : t160 = true
                · subst c23
                  have H1 : ((digits_Dec.f t159).bind fun t167 => (some (t167.toList == a1.toList))) = some r := by rw [if_pos rfl] at H; exact H
                  clear H
                  have H := H1
                  clear H1
                  replace H := Option.bind_eq_some_iff.mp H
                  obtain ⟨t167, A240, H⟩ := H
                  replace H : (some (t167.toList == a1.toList)) = some r := H
                  have A24 := Aside0.mk A240
                  clear A240
                  obtain rfl := Option.some.inj H
                  go_wp2_with (first | ((with_reducible refine gate_callee (f := 20) rfl ?_); refine goesL_ (some 40) rfl rfl Tryd.func20 (by kernel_rfl) rfl #[.string t158] rfl (by (try simp only [List.map_toArray, List.map_cons, List.map_nil]); first | done | rfl | (simp only [List.length_drop, List.length_take]; rfl)) ?_; (with_reducible refine (digits_Undec.calls t158 t164 true _ ?side1 A17.out).mono ?_); (case side1 => exact ⟨Good.below hG.out (by repeat (first | (with_reducible first | exact HB.out | apply below_alloc | apply pw_below_drewN | apply below_drew1) | exact HB.out))⟩); rintro e w25 ⟨rfl, hb⟩; refine ⟨_, rfl, ?_⟩; have n0_ := Aside0.mk (below_step (by repeat (first | (with_reducible first | exact HB.out | apply below_alloc | apply pw_below_drewN | apply below_drew1) | exact HB.out)) hb); clear HB; have HB := n0_; clear n0_; (try clear hb); (try clear hb2); (try clear hk); (try clear hi)) | ((with_reducible refine gate_callee (f := 18) rfl ?_); refine goesL_ (some 43) rfl rfl Tryd.func18 (by kernel_rfl) rfl #[] rfl (by (try simp only [List.map_toArray, List.map_cons, List.map_nil]); first | done | rfl | (simp only [List.length_drop, List.length_take]; rfl)) ?_; (with_reducible refine (afterglowlaw02_alive.calls kj5  true _ ?side1 A18.out).mono ?_); (case side1 => exact ⟨Good.below hG.out (by repeat (first | (with_reducible first | exact HB.out | apply below_alloc | apply pw_below_drewN | apply below_drew1) | exact HB.out))⟩); rintro e w26 ⟨rfl, hb⟩; refine ⟨_, rfl, ?_⟩; have n0_ := Aside0.mk (below_step (by repeat (first | (with_reducible first | exact HB.out | apply below_alloc | apply pw_below_drewN | apply below_drew1) | exact HB.out)) hb); clear HB; have HB := n0_; clear n0_; (try clear hb); (try clear hb2); (try clear hk); (try clear hi)) | (go_at_call 19; (with_reducible refine (digits_Dec.calls t159 t167 _ ?side1 A24.out).mono ?_); (case side1 => exact ⟨Good.below hG.out (by repeat (first | (with_reducible first | exact HB.out | apply below_alloc | apply pw_below_drewN | apply below_drew1) | exact HB.out))⟩); rintro e w27 ⟨rfl, hb⟩; have n0_ := Aside0.mk (below_step (by repeat (first | (with_reducible first | exact HB.out | apply below_alloc | apply pw_below_drewN | apply below_drew1) | exact HB.out)) hb); clear HB; have HB := n0_; clear n0_; (try clear hb); (try clear hb2); (try clear hk); (try clear hi)))
                  go_ret
                  exact ⟨by first | rfl | (simp [errW_none, errW_some] <;> rfl) | (simp [*, errW_none, errW_some] <;> rfl), by repeat (first | (with_reducible first | exact HB.out | apply below_alloc | apply pw_below_drewN | apply below_drew1) | exact HB.out)⟩
                · replace c23 := Bool.eq_false_iff.mpr c23
                  subst c23
                  have H1 : (some true) = some r := by rw [if_neg (show ¬ (false = true) by decide)] at H; exact H
                  clear H
                  have H := H1
                  clear H1
                  obtain rfl := Option.some.inj H
                  go_wp2_with (first | ((with_reducible refine gate_callee (f := 20) rfl ?_); refine goesL_ (some 40) rfl rfl Tryd.func20 (by kernel_rfl) rfl #[.string t158] rfl (by (try simp only [List.map_toArray, List.map_cons, List.map_nil]); first | done | rfl | (simp only [List.length_drop, List.length_take]; rfl)) ?_; (with_reducible refine (digits_Undec.calls t158 t164 true _ ?side1 A17.out).mono ?_); (case side1 => exact ⟨Good.below hG.out (by repeat (first | (with_reducible first | exact HB.out | apply below_alloc | apply pw_below_drewN | apply below_drew1) | exact HB.out))⟩); rintro e w28 ⟨rfl, hb⟩; refine ⟨_, rfl, ?_⟩; have n0_ := Aside0.mk (below_step (by repeat (first | (with_reducible first | exact HB.out | apply below_alloc | apply pw_below_drewN | apply below_drew1) | exact HB.out)) hb); clear HB; have HB := n0_; clear n0_; (try clear hb); (try clear hb2); (try clear hk); (try clear hi)) | ((with_reducible refine gate_callee (f := 18) rfl ?_); refine goesL_ (some 43) rfl rfl Tryd.func18 (by kernel_rfl) rfl #[] rfl (by (try simp only [List.map_toArray, List.map_cons, List.map_nil]); first | done | rfl | (simp only [List.length_drop, List.length_take]; rfl)) ?_; (with_reducible refine (afterglowlaw02_alive.calls kj5  true _ ?side1 A18.out).mono ?_); (case side1 => exact ⟨Good.below hG.out (by repeat (first | (with_reducible first | exact HB.out | apply below_alloc | apply pw_below_drewN | apply below_drew1) | exact HB.out))⟩); rintro e w29 ⟨rfl, hb⟩; refine ⟨_, rfl, ?_⟩; have n0_ := Aside0.mk (below_step (by repeat (first | (with_reducible first | exact HB.out | apply below_alloc | apply pw_below_drewN | apply below_drew1) | exact HB.out)) hb); clear HB; have HB := n0_; clear n0_; (try clear hb); (try clear hb2); (try clear hk); (try clear hi)))
                  go_ret
                  exact ⟨by first | rfl | (simp [errW_none, errW_some] <;> rfl) | (simp [*, errW_none, errW_some] <;> rfl), by repeat (first | (with_reducible first | exact HB.out | apply below_alloc | apply pw_below_drewN | apply below_drew1) | exact HB.out)⟩
              · rw [if_neg c22] at H
                have c22b0 : (t164 == a0) = false := beq_eq_false_iff_ne.mpr c22
                have c22b1 : (t164 != a0) = true := bne_iff_ne.mpr c22
                obtain rfl := Option.some.inj H
                go_wp2_with (first | ((with_reducible refine gate_callee (f := 20) rfl ?_); refine goesL_ (some 40) rfl rfl Tryd.func20 (by kernel_rfl) rfl #[.string t158] rfl (by (try simp only [List.map_toArray, List.map_cons, List.map_nil]); first | done | rfl | (simp only [List.length_drop, List.length_take]; rfl)) ?_; (with_reducible refine (digits_Undec.calls t158 t164 true _ ?side1 A17.out).mono ?_); (case side1 => exact ⟨Good.below hG.out (by repeat (first | (with_reducible first | exact HB.out | apply below_alloc | apply pw_below_drewN | apply below_drew1) | exact HB.out))⟩); rintro e w30 ⟨rfl, hb⟩; refine ⟨_, rfl, ?_⟩; have n0_ := Aside0.mk (below_step (by repeat (first | (with_reducible first | exact HB.out | apply below_alloc | apply pw_below_drewN | apply below_drew1) | exact HB.out)) hb); clear HB; have HB := n0_; clear n0_; (try clear hb); (try clear hb2); (try clear hk); (try clear hi)) | ((with_reducible refine gate_callee (f := 18) rfl ?_); refine goesL_ (some 43) rfl rfl Tryd.func18 (by kernel_rfl) rfl #[] rfl (by (try simp only [List.map_toArray, List.map_cons, List.map_nil]); first | done | rfl | (simp only [List.length_drop, List.length_take]; rfl)) ?_; (with_reducible refine (afterglowlaw02_alive.calls kj5  true _ ?side1 A18.out).mono ?_); (case side1 => exact ⟨Good.below hG.out (by repeat (first | (with_reducible first | exact HB.out | apply below_alloc | apply pw_below_drewN | apply below_drew1) | exact HB.out))⟩); rintro e w31 ⟨rfl, hb⟩; refine ⟨_, rfl, ?_⟩; have n0_ := Aside0.mk (below_step (by repeat (first | (with_reducible first | exact HB.out | apply below_alloc | apply pw_below_drewN | apply below_drew1) | exact HB.out)) hb); clear HB; have HB := n0_; clear n0_; (try clear hb); (try clear hb2); (try clear hk); (try clear hi)))
                go_ret
                exact ⟨by first | rfl | (simp [errW_none, errW_some] <;> rfl) | (simp [*, errW_none, errW_some] <;> rfl), by repeat (first | (with_reducible first | exact HB.out | apply below_alloc | apply pw_below_drewN | apply below_drew1) | exact HB.out)⟩
            · replace c21 := Bool.eq_false_iff.mpr c21
              subst c21
              have H1 : (if t160 = true then ((digits_Dec.f t159).bind fun t168 => (some (t168.toList == a1.toList))) else (some true)) = some r := by rw [if_neg (show ¬ (false = true) by decide)] at H; exact H
              clear H
              have H := H1
              clear H1
              by_cases c32 : t160 = true
              · subst c32
                have H1 : ((digits_Dec.f t159).bind fun t168 => (some (t168.toList == a1.toList))) = some r := by rw [if_pos rfl] at H; exact H
                clear H
                have H := H1
                clear H1
                replace H := Option.bind_eq_some_iff.mp H
                obtain ⟨t168, A330, H⟩ := H
                replace H : (some (t168.toList == a1.toList)) = some r := H
                have A33 := Aside0.mk A330
                clear A330
                obtain rfl := Option.some.inj H
                go_wp2_with (first | ((with_reducible refine gate_callee (f := 20) rfl ?_); refine goesL_ (some 40) rfl rfl Tryd.func20 (by kernel_rfl) rfl #[.string t158] rfl (by (try simp only [List.map_toArray, List.map_cons, List.map_nil]); first | done | rfl | (simp only [List.length_drop, List.length_take]; rfl)) ?_; (with_reducible refine (digits_Undec.calls t158 t164 false _ ?side1 A17.out).mono ?_); (case side1 => exact ⟨Good.below hG.out (by repeat (first | (with_reducible first | exact HB.out | apply below_alloc | apply pw_below_drewN | apply below_drew1) | exact HB.out))⟩); rintro e w34 ⟨rfl, hb⟩; refine ⟨_, rfl, ?_⟩; have n0_ := Aside0.mk (below_step (by repeat (first | (with_reducible first | exact HB.out | apply below_alloc | apply pw_below_drewN | apply below_drew1) | exact HB.out)) hb); clear HB; have HB := n0_; clear n0_; (try clear hb); (try clear hb2); (try clear hk); (try clear hi)) | ((with_reducible refine gate_callee (f := 18) rfl ?_); refine goesL_ (some 43) rfl rfl Tryd.func18 (by kernel_rfl) rfl #[] rfl (by (try simp only [List.map_toArray, List.map_cons, List.map_nil]); first | done | rfl | (simp only [List.length_drop, List.length_take]; rfl)) ?_; (with_reducible refine (afterglowlaw02_alive.calls kj5  true _ ?side1 A18.out).mono ?_); (case side1 => exact ⟨Good.below hG.out (by repeat (first | (with_reducible first | exact HB.out | apply below_alloc | apply pw_below_drewN | apply below_drew1) | exact HB.out))⟩); rintro e w35 ⟨rfl, hb⟩; refine ⟨_, rfl, ?_⟩; have n0_ := Aside0.mk (below_step (by repeat (first | (with_reducible first | exact HB.out | apply below_alloc | apply pw_below_drewN | apply below_drew1) | exact HB.out)) hb); clear HB; have HB := n0_; clear n0_; (try clear hb); (try clear hb2); (try clear hk); (try clear hi)) | (go_at_call 19; (with_reducible refine (digits_Dec.calls t159 t168 _ ?side1 A33.out).mono ?_); (case side1 => exact ⟨Good.below hG.out (by repeat (first | (with_reducible first | exact HB.out | apply below_alloc | apply pw_below_drewN | apply below_drew1) | exact HB.out))⟩); rintro e w36 ⟨rfl, hb⟩; have n0_ := Aside0.mk (below_step (by repeat (first | (with_reducible first | exact HB.out | apply below_alloc | apply pw_below_drewN | apply below_drew1) | exact HB.out)) hb); clear HB; have HB := n0_; clear n0_; (try clear hb); (try clear hb2); (try clear hk); (try clear hi)))
                go_ret
                exact ⟨by first | rfl | (simp [errW_none, errW_some] <;> rfl) | (simp [*, errW_none, errW_some] <;> rfl), by repeat (first | (with_reducible first | exact HB.out | apply below_alloc | apply pw_below_drewN | apply below_drew1) | exact HB.out)⟩
              · replace c32 := Bool.eq_false_iff.mpr c32
                subst c32
                have H1 : (some true) = some r := by rw [if_neg (show ¬ (false = true) by decide)] at H; exact H
                clear H
                have H := H1
                clear H1
                obtain rfl := Option.some.inj H
                go_wp2_with (first | ((with_reducible refine gate_callee (f := 20) rfl ?_); refine goesL_ (some 40) rfl rfl Tryd.func20 (by kernel_rfl) rfl #[.string t158] rfl (by (try simp only [List.map_toArray, List.map_cons, List.map_nil]); first | done | rfl | (simp only [List.length_drop, List.length_take]; rfl)) ?_; (with_reducible refine (digits_Undec.calls t158 t164 false _ ?side1 A17.out).mono ?_); (case side1 => exact ⟨Good.below hG.out (by repeat (first | (with_reducible first | exact HB.out | apply below_alloc | apply pw_below_drewN | apply below_drew1) | exact HB.out))⟩); rintro e w37 ⟨rfl, hb⟩; refine ⟨_, rfl, ?_⟩; have n0_ := Aside0.mk (below_step (by repeat (first | (with_reducible first | exact HB.out | apply below_alloc | apply pw_below_drewN | apply below_drew1) | exact HB.out)) hb); clear HB; have HB := n0_; clear n0_; (try clear hb); (try clear hb2); (try clear hk); (try clear hi)) | ((with_reducible refine gate_callee (f := 18) rfl ?_); refine goesL_ (some 43) rfl rfl Tryd.func18 (by kernel_rfl) rfl #[] rfl (by (try simp only [List.map_toArray, List.map_cons, List.map_nil]); first | done | rfl | (simp only [List.length_drop, List.length_take]; rfl)) ?_; (with_reducible refine (afterglowlaw02_alive.calls kj5  true _ ?side1 A18.out).mono ?_); (case side1 => exact ⟨Good.below hG.out (by repeat (first | (with_reducible first | exact HB.out | apply below_alloc | apply pw_below_drewN | apply below_drew1) | exact HB.out))⟩); rintro e w38 ⟨rfl, hb⟩; refine ⟨_, rfl, ?_⟩; have n0_ := Aside0.mk (below_step (by repeat (first | (with_reducible first | exact HB.out | apply below_alloc | apply pw_below_drewN | apply below_drew1) | exact HB.out)) hb); clear HB; have HB := n0_; clear n0_; (try clear hb); (try clear hb2); (try clear hk); (try clear hi)))
                go_ret
                exact ⟨by first | rfl | (simp [errW_none, errW_some] <;> rfl) | (simp [*, errW_none, errW_some] <;> rfl), by repeat (first | (with_reducible first | exact HB.out | apply below_alloc | apply pw_below_drewN | apply below_drew1) | exact HB.out)⟩
          · rw [if_neg c20] at H
            have c20b0 : (t165 == (t158.toList != ([] : List UInt8))) = false := by simpa using c20
            (try (have c20b1 : decide (t165 = (t158.toList != ([] : List UInt8))) = false := by simpa using c20))
            (try (have c20b2 : (t165 == (t158.toList != ([] : List UInt8))) = false := by simpa using c20))
            have c20b7 := (eq_bne_neg c20).1
            have c20b8 := (eq_bne_neg c20).2
            (try (have c20b3 : ¬ (t165 = (t158.toList != ([] : List UInt8))) := by simpa using c20))
            clear c20
            obtain rfl := Option.some.inj H
            go_wp2_with (first | ((with_reducible refine gate_callee (f := 20) rfl ?_); refine goesL_ (some 40) rfl rfl Tryd.func20 (by kernel_rfl) rfl #[.string t158] rfl (by (try simp only [List.map_toArray, List.map_cons, List.map_nil]); first | done | rfl | (simp only [List.length_drop, List.length_take]; rfl)) ?_; (with_reducible refine (digits_Undec.calls t158 t164 t165 _ ?side1 A17.out).mono ?_); (case side1 => exact ⟨Good.below hG.out (by repeat (first | (with_reducible first | exact HB.out | apply below_alloc | apply pw_below_drewN | apply below_drew1) | exact HB.out))⟩); rintro e w39 ⟨rfl, hb⟩; refine ⟨_, rfl, ?_⟩; have n0_ := Aside0.mk (below_step (by repeat (first | (with_reducible first | exact HB.out | apply below_alloc | apply pw_below_drewN | apply below_drew1) | exact HB.out)) hb); clear HB; have HB := n0_; clear n0_; (try clear hb); (try clear hb2); (try clear hk); (try clear hi)) | ((with_reducible refine gate_callee (f := 18) rfl ?_); refine goesL_ (some 43) rfl rfl Tryd.func18 (by kernel_rfl) rfl #[] rfl (by (try simp only [List.map_toArray, List.map_cons, List.map_nil]); first | done | rfl | (simp only [List.length_drop, List.length_take]; rfl)) ?_; (with_reducible refine (afterglowlaw02_alive.calls kj5  true _ ?side1 A18.out).mono ?_); (case side1 => exact ⟨Good.below hG.out (by repeat (first | (with_reducible first | exact HB.out | apply below_alloc | apply pw_below_drewN | apply below_drew1) | exact HB.out))⟩); rintro e w40 ⟨rfl, hb⟩; refine ⟨_, rfl, ?_⟩; have n0_ := Aside0.mk (below_step (by repeat (first | (with_reducible first | exact HB.out | apply below_alloc | apply pw_below_drewN | apply below_drew1) | exact HB.out)) hb); clear HB; have HB := n0_; clear n0_; (try clear hb); (try clear hb2); (try clear hk); (try clear hi)))
            go_ret
            exact ⟨by first | rfl | (simp [errW_none, errW_some] <;> rfl) | (simp [*, errW_none, errW_some] <;> rfl), by repeat (first | (with_reducible first | exact HB.out | apply below_alloc | apply pw_below_drewN | apply below_drew1) | exact HB.out)⟩
        · replace c19 := Bool.eq_false_iff.mpr c19
          subst c19
          have H1 : (some false) = some r := by rw [if_neg (show ¬ (false = true) by decide)] at H; exact H
          clear H
          have H := H1
          clear H1
          obtain rfl := Option.some.inj H
          go_wp2_with (first | ((with_reducible refine gate_callee (f := 20) rfl ?_); refine goesL_ (some 40) rfl rfl Tryd.func20 (by kernel_rfl) rfl #[.string t158] rfl (by (try simp only [List.map_toArray, List.map_cons, List.map_nil]); first | done | rfl | (simp only [List.length_drop, List.length_take]; rfl)) ?_; (with_reducible refine (digits_Undec.calls t158 t164 t165 _ ?side1 A17.out).mono ?_); (case side1 => exact ⟨Good.below hG.out (by repeat (first | (with_reducible first | exact HB.out | apply below_alloc | apply pw_below_drewN | apply below_drew1) | exact HB.out))⟩); rintro e w41 ⟨rfl, hb⟩; refine ⟨_, rfl, ?_⟩; have n0_ := Aside0.mk (below_step (by repeat (first | (with_reducible first | exact HB.out | apply below_alloc | apply pw_below_drewN | apply below_drew1) | exact HB.out)) hb); clear HB; have HB := n0_; clear n0_; (try clear hb); (try clear hb2); (try clear hk); (try clear hi)) | ((with_reducible refine gate_callee (f := 18) rfl ?_); refine goesL_ (some 43) rfl rfl Tryd.func18 (by kernel_rfl) rfl #[] rfl (by (try simp only [List.map_toArray, List.map_cons, List.map_nil]); first | done | rfl | (simp only [List.length_drop, List.length_take]; rfl)) ?_; (with_reducible refine (afterglowlaw02_alive.calls kj5  false _ ?side1 A18.out).mono ?_); (case side1 => exact ⟨Good.below hG.out (by repeat (first | (with_reducible first | exact HB.out | apply below_alloc | apply pw_below_drewN | apply below_drew1) | exact HB.out))⟩); rintro e w42 ⟨rfl, hb⟩; refine ⟨_, rfl, ?_⟩; have n0_ := Aside0.mk (below_step (by repeat (first | (with_reducible first | exact HB.out | apply below_alloc | apply pw_below_drewN | apply below_drew1) | exact HB.out)) hb); clear HB; have HB := n0_; clear n0_; (try clear hb); (try clear hb2); (try clear hk); (try clear hi)))
          go_ret
          exact ⟨by first | rfl | (simp [errW_none, errW_some] <;> rfl) | (simp [*, errW_none, errW_some] <;> rfl), by repeat (first | (with_reducible first | exact HB.out | apply below_alloc | apply pw_below_drewN | apply below_drew1) | exact HB.out)⟩

/-! ### afterglowref02_Word: function 55 -/
def afterglowref02_Word.l0 : Nat → ByteArray → Int → Option (Bool)
  | 0, _, _ => none
  | k + 1, x0, x3 => if x3 < (x0.size : Int) then (if 0 ≤ x3 then (if (bt x0 x3) < 33 then (some false) else (if (bt x0 x3) > 126 then (some false) else (afterglowref02_Word.l0 k x0 (wrap64 (x3 + 1))))) else (none)) else (some (decide ((x0.size : Int) > 0)))
def afterglowref02_Word.f (k : Nat) (a0 : ByteArray) : Option (Bool) := afterglowref02_Word.l0 k a0 0
theorem afterglowref02_Word.mono_l : ∀ k, (∀ y0 y1, LeO (afterglowref02_Word.l0 k y0 y1) (afterglowref02_Word.l0 (k + 1) y0 y1))
  | 0 => fun _ _ r h => by simp [afterglowref02_Word.l0] at h
  | k + 1 => by
    have ih0 := afterglowref02_Word.mono_l k
    · intro y0 y1
      unfold afterglowref02_Word.l0
      repeat' first
      | (with_reducible exact ih0 _ _)
      | (with_reducible exact LeO.refl _)
      | (with_reducible exact LeO.none _)
      | (with_reducible refine LeO.ite ?_ ?_)
      | (with_reducible refine LeO.bind ?_ (fun _ => ?_))
      | exact ih0 _ _
      | exact LeO.none _
      | refine LeO.ite ?_ ?_
      | refine LeO.bind ?_ (fun _ => ?_)
theorem afterglowref02_Word.mono : ∀ a0 k, LeO (afterglowref02_Word.f k a0) (afterglowref02_Word.f (k + 1) a0) := by
  intro a0 k
  have ih0 := afterglowref02_Word.mono_l k
  unfold afterglowref02_Word.f
  repeat' first
      | (with_reducible exact ih0 _ _)
      | (with_reducible exact LeO.refl _)
      | (with_reducible exact LeO.none _)
      | (with_reducible refine LeO.ite ?_ ?_)
      | (with_reducible refine LeO.bind ?_ (fun _ => ?_))
      | exact ih0 _ _
      | exact LeO.none _
      | refine LeO.ite ?_ ?_
      | refine LeO.bind ?_ (fun _ => ?_)
set_option maxHeartbeats 8000000 in
set_option maxRecDepth 100000 in
theorem afterglowref02_Word.calls (k : Nat) (a0 : ByteArray) (r : Bool) (w : World) (h : afterglowref02_Word.f k a0 = some r) :
    Calls Tryd.prog 55 #[.string a0] w fun e w' => e = .returned (.bool r) ∧ Drawn0 w w' := by
  have H : (afterglowref02_Word.l0 k a0 0) = some r := h
  clear h
  have H' := Aside0.mk H
  clear H
  go_enter Tryd.func55, Tryd.ntmps55
  go_wp2
  go_loopg [3] k (fun kq v3 w' => ∃ (x3_1 : Int), v3 = .int .i64 x3_1 ∧ Aside0 (afterglowref02_Word.l0 kq a0 x3_1 = some r) ∧ Aside0 (kq ≤ k) ∧ Drawn0 w w')
  case atStart => exact ⟨(0), (by first | rfl | (simp; done) | (simp [*]; done)), H', ⟨Nat.le_refl _⟩, by repeat (first | exact Drawn0.refl _ | apply Drawn0.step)⟩
  case round =>
    clear H'
    obtain ⟨x3_1, rfl, HA, HK1, ⟨m1, rfl⟩⟩ := hrel
    cases gk with
    | zero => exact absurd HA.out (by simp [afterglowref02_Word.l0])
    | succ k1 =>
      have H := HA.out
      clear HA
      simp only [afterglowref02_Word.l0] at H
      by_cases c2 : x3_1 < (a0.size : Int)
      · rw [if_pos c2] at H
        have c2b0 : decide (x3_1 < (a0.size : Int)) = true := decide_eq_true c2
        clear c2
        by_cases c3 : 0 ≤ x3_1
        · rw [if_pos c3] at H
          have c3b0 : decide (0 ≤ x3_1) = true := decide_eq_true c3
          clear c3
          by_cases c5 : (bt a0 x3_1) < 33
          · rw [if_pos c5] at H
            have c5b0 : decide ((bt a0 x3_1) < 33) = true := decide_eq_true c5
            clear c5
            obtain rfl := Option.some.inj H
            have p4 : 0 ≤ (x3_1 : Int) := of_decide_eq_true (by first | (with_reducible assumption) | assumption)
            have q4 : x3_1 < (a0.size : Int) := of_decide_eq_true (by first | (with_reducible assumption) | assumption)
            have hx4 := bt_at a0 x3_1
            replace p4 := eq_true p4
            replace q4 := eq_true q4
            go_wp2
            go_ret
            exact ⟨by first | rfl | (simp; done) | (simp [*]; done), by repeat (first | exact Drawn0.refl _ | apply Drawn0.step)⟩
          · rw [if_neg c5] at H
            have c5b0 : decide ((bt a0 x3_1) < 33) = false := decide_eq_false c5
            clear c5
            by_cases c7 : (bt a0 x3_1) > 126
            · rw [if_pos c7] at H
              have c7b0 : decide (126 < (bt a0 x3_1)) = true := decide_eq_true c7
              clear c7
              obtain rfl := Option.some.inj H
              have p4 : 0 ≤ (x3_1 : Int) := of_decide_eq_true (by first | (with_reducible assumption) | assumption)
              have q4 : x3_1 < (a0.size : Int) := of_decide_eq_true (by first | (with_reducible assumption) | assumption)
              have hx4 := bt_at a0 x3_1
              replace p4 := eq_true p4
              replace q4 := eq_true q4
              have p6 : 0 ≤ (x3_1 : Int) := of_decide_eq_true (by first | (with_reducible assumption) | assumption)
              have q6 : x3_1 < (a0.size : Int) := of_decide_eq_true (by first | (with_reducible assumption) | assumption)
              have hx6 := bt_at a0 x3_1
              replace p6 := eq_true p6
              replace q6 := eq_true q6
              go_wp2
              go_ret
              exact ⟨by first | rfl | (simp; done) | (simp [*]; done), by repeat (first | exact Drawn0.refl _ | apply Drawn0.step)⟩
            · rw [if_neg c7] at H
              have c7b0 : decide (126 < (bt a0 x3_1)) = false := decide_eq_false c7
              clear c7
              have H' := Aside0.mk H
              clear H
              have p4 : 0 ≤ (x3_1 : Int) := of_decide_eq_true (by first | (with_reducible assumption) | assumption)
              have q4 : x3_1 < (a0.size : Int) := of_decide_eq_true (by first | (with_reducible assumption) | assumption)
              have hx4 := bt_at a0 x3_1
              replace p4 := eq_true p4
              replace q4 := eq_true q4
              have p6 : 0 ≤ (x3_1 : Int) := of_decide_eq_true (by first | (with_reducible assumption) | assumption)
              have q6 : x3_1 < (a0.size : Int) := of_decide_eq_true (by first | (with_reducible assumption) | assumption)
              have hx6 := bt_at a0 x3_1
              replace p6 := eq_true p6
              replace q6 := eq_true q6
              go_wp2
              go_roundg k1
              case measure => have := HK1.out; omega
              case rel => exact ⟨(wrap64 (x3_1 + 1)), (by first | rfl | (simp; done) | (simp [*]; done)), H', ⟨by have := HK1.out; omega⟩, by repeat (first | exact Drawn0.refl _ | apply Drawn0.step)⟩
        · rw [if_neg c3] at H
          exact absurd H (by simp)
      · rw [if_neg c2] at H
        have c2b0 : decide (x3_1 < (a0.size : Int)) = false := decide_eq_false c2
        clear c2
        obtain rfl := Option.some.inj H
        go_wp2
        go_ret
        exact ⟨by first | rfl | (simp; done) | (simp [*]; done), by repeat (first | exact Drawn0.refl _ | apply Drawn0.step)⟩

/-! ### afterglowref02_Line: function 24 -/
def afterglowref02_Line.l0 : Nat → List ByteArray → ByteArray → Int → Option (ByteArray)
  | 0, _, _, _ => none
  | k + 1, x0, x3, x4 => if x4 < (x0.length : Int) then (if 0 ≤ x4 then ((afterglowref02_Word.f k (rdOf ByteArray.empty x0 x4)).bind fun t170 => (if t170 = true then (if x4 > 0 then (if x3.size + 1 ≤ 9223372036854775807 then (if (x3 ++ (⟨#[32]⟩ : ByteArray)).size + (rdOf ByteArray.empty x0 x4).size ≤ 9223372036854775807 then (afterglowref02_Line.l0 k x0 ((x3 ++ (⟨#[32]⟩ : ByteArray)) ++ (rdOf ByteArray.empty x0 x4)) (wrap64 (x4 + 1))) else (none)) else (none)) else (if x3.size + (rdOf ByteArray.empty x0 x4).size ≤ 9223372036854775807 then (afterglowref02_Line.l0 k x0 (x3 ++ (rdOf ByteArray.empty x0 x4)) (wrap64 (x4 + 1))) else (none))) else (some (⟨#[]⟩ : ByteArray)))) else (none)) else (some x3)
def afterglowref02_Line.f (k : Nat) (l0 : List ByteArray) : Option (ByteArray) := afterglowref02_Line.l0 k l0 (⟨#[]⟩ : ByteArray) 0
theorem afterglowref02_Line.mono_l : ∀ k, (∀ y0 y1 y2, LeO (afterglowref02_Line.l0 k y0 y1 y2) (afterglowref02_Line.l0 (k + 1) y0 y1 y2))
  | 0 => fun _ _ _ r h => by simp [afterglowref02_Line.l0] at h
  | k + 1 => by
    have ih0 := afterglowref02_Line.mono_l k
    · intro y0 y1 y2
      unfold afterglowref02_Line.l0
      repeat' first
      | (with_reducible exact ih0 _ _ _)
      | (with_reducible exact afterglowref02_Word.mono _ _)
      | (with_reducible exact LeO.refl _)
      | (with_reducible exact LeO.none _)
      | (with_reducible refine LeO.ite ?_ ?_)
      | (with_reducible refine LeO.bind ?_ (fun _ => ?_))
      | exact ih0 _ _ _
      | exact afterglowref02_Word.mono _ _
      | exact LeO.none _
      | refine LeO.ite ?_ ?_
      | refine LeO.bind ?_ (fun _ => ?_)
theorem afterglowref02_Line.mono : ∀ a0 k, LeO (afterglowref02_Line.f k a0) (afterglowref02_Line.f (k + 1) a0) := by
  intro a0 k
  have ih0 := afterglowref02_Line.mono_l k
  unfold afterglowref02_Line.f
  repeat' first
      | (with_reducible exact ih0 _ _ _)
      | (with_reducible exact afterglowref02_Word.mono _ _)
      | (with_reducible exact LeO.refl _)
      | (with_reducible exact LeO.none _)
      | (with_reducible refine LeO.ite ?_ ?_)
      | (with_reducible refine LeO.bind ?_ (fun _ => ?_))
      | exact ih0 _ _ _
      | exact afterglowref02_Word.mono _ _
      | exact LeO.none _
      | refine LeO.ite ?_ ?_
      | refine LeO.bind ?_ (fun _ => ?_)
set_option maxHeartbeats 8000000 in
set_option maxRecDepth 100000 in
theorem afterglowref02_Line.calls (k : Nat) (A0 : Option Addr) (c0 : Nat) (l0 : List ByteArray) (r : ByteArray) (w : World) (hr0 : Kd.C Kd.string w A0 l0.length l0) (hc0 : l0.length ≤ c0) (h : afterglowref02_Line.f k l0 = some r) :
    Calls Tryd.prog 24 #[.slice A0 l0.length c0] w fun e w' => e = .returned (.string r) ∧ Drawn0 w w' := by
  have HR0 := Aside0.mk hr0
  have HC0 := Aside0.mk hc0
  clear hr0 hc0
  have H : (afterglowref02_Line.l0 k l0 (⟨#[]⟩ : ByteArray) 0) = some r := h
  clear h
  have H' := Aside0.mk H
  clear H
  go_enter Tryd.func24, Tryd.ntmps24
  go_wp2
  go_loopg [3, 4] k (fun kq v3 v4 w' => ∃ (x3_1 : ByteArray) (x4_1 : Int), v3 = .string x3_1 ∧ v4 = .int .i64 x4_1 ∧ Aside0 (afterglowref02_Line.l0 kq l0 x3_1 x4_1 = some r) ∧ Aside0 (kq ≤ k) ∧ Drawn0 w w')
  case atStart => exact ⟨((⟨#[]⟩ : ByteArray)), (0), (by first | rfl | (simp; done) | (simp [*]; done)), (by first | rfl | (simp; done) | (simp [*]; done)), H', ⟨Nat.le_refl _⟩, by repeat (first | exact Drawn0.refl _ | apply Drawn0.step)⟩
  case round =>
    clear H'
    obtain ⟨x3_1, x4_1, rfl, rfl, HA, HK1, ⟨m1, rfl⟩⟩ := hrel
    cases gk with
    | zero => exact absurd HA.out (by simp [afterglowref02_Line.l0])
    | succ k1 =>
      have H := HA.out
      clear HA
      simp only [afterglowref02_Line.l0] at H
      by_cases c2 : x4_1 < (l0.length : Int)
      · rw [if_pos c2] at H
        have c2b0 : decide (x4_1 < (l0.length : Int)) = true := decide_eq_true c2
        clear c2
        by_cases c3 : 0 ≤ x4_1
        · rw [if_pos c3] at H
          have c3b0 : decide (0 ≤ x4_1) = true := decide_eq_true c3
          clear c3
          replace H := Option.bind_eq_some_iff.mp H
          obtain ⟨t170, A40, H⟩ := H
          replace H : (if t170 = true then (if x4_1 > 0 then (if x3_1.size + 1 ≤ 9223372036854775807 then (if (x3_1 ++ (⟨#[32]⟩ : ByteArray)).size + (rdOf ByteArray.empty l0 x4_1).size ≤ 9223372036854775807 then (afterglowref02_Line.l0 k1 l0 ((x3_1 ++ (⟨#[32]⟩ : ByteArray)) ++ (rdOf ByteArray.empty l0 x4_1)) (wrap64 (x4_1 + 1))) else (none)) else (none)) else (if x3_1.size + (rdOf ByteArray.empty l0 x4_1).size ≤ 9223372036854775807 then (afterglowref02_Line.l0 k1 l0 (x3_1 ++ (rdOf ByteArray.empty l0 x4_1)) (wrap64 (x4_1 + 1))) else (none))) else (some (⟨#[]⟩ : ByteArray))) = some r := H
          have A4 := Aside0.mk A40
          clear A40
          by_cases c5 : t170 = true
          · subst c5
            have H1 : (if x4_1 > 0 then (if x3_1.size + 1 ≤ 9223372036854775807 then (if (x3_1 ++ (⟨#[32]⟩ : ByteArray)).size + (rdOf ByteArray.empty l0 x4_1).size ≤ 9223372036854775807 then (afterglowref02_Line.l0 k1 l0 ((x3_1 ++ (⟨#[32]⟩ : ByteArray)) ++ (rdOf ByteArray.empty l0 x4_1)) (wrap64 (x4_1 + 1))) else (none)) else (none)) else (if x3_1.size + (rdOf ByteArray.empty l0 x4_1).size ≤ 9223372036854775807 then (afterglowref02_Line.l0 k1 l0 (x3_1 ++ (rdOf ByteArray.empty l0 x4_1)) (wrap64 (x4_1 + 1))) else (none))) = some r := by rw [if_pos rfl] at H; exact H
            clear H
            have H := H1
            clear H1
            by_cases c6 : x4_1 > 0
            · rw [if_pos c6] at H
              have c6b0 : decide (0 < x4_1) = true := decide_eq_true c6
              clear c6
              by_cases c7 : x3_1.size + 1 ≤ 9223372036854775807
              · rw [if_pos c7] at H
                have c7b0 := eq_true c7
                have c7b1 : decide (x3_1.size + 1 ≤ 9223372036854775807) = true := decide_eq_true c7
                try have c7b2 : (9223372036854775807 < x3_1.size + 1) = False := eq_false (Nat.not_lt.2 c7)
                by_cases c8 : (x3_1 ++ (⟨#[32]⟩ : ByteArray)).size + (rdOf ByteArray.empty l0 x4_1).size ≤ 9223372036854775807
                · rw [if_pos c8] at H
                  have c8b0 := eq_true c8
                  have c8b1 : decide ((x3_1 ++ (⟨#[32]⟩ : ByteArray)).size + (rdOf ByteArray.empty l0 x4_1).size ≤ 9223372036854775807) = true := decide_eq_true c8
                  try have c8b2 : (9223372036854775807 < (x3_1 ++ (⟨#[32]⟩ : ByteArray)).size + (rdOf ByteArray.empty l0 x4_1).size) = False := eq_false (Nat.not_lt.2 c8)
                  have H' := Aside0.mk H
                  clear H
                  have p169 : 0 ≤ (x4_1 : Int) := of_decide_eq_true (by first | (with_reducible assumption) | assumption)
                  have q169 : x4_1 < (l0.length : Int) := of_decide_eq_true (by first | (with_reducible assumption) | assumption)
                  obtain ⟨ad169, e169, hx169_0⟩ := Kd.at_string HR0.out x4_1 p169 q169
                  cases e169
                  replace p169 := eq_true p169
                  replace q169 := eq_true q169
                  go_wp2_with (first | ((with_reducible refine gate_callee (f := 55) rfl ?_); refine goesL_ (some 15) rfl rfl Tryd.func55 (by kernel_rfl) rfl #[.string (rdOf ByteArray.empty l0 x4_1)] rfl (by (try simp only [List.map_toArray, List.map_cons, List.map_nil]); first | done | rfl | (simp only [List.length_drop, List.length_take]; rfl)) ?_; (with_reducible refine (afterglowref02_Word.calls k1 (rdOf ByteArray.empty l0 x4_1) true _ A4.out).mono ?_); rintro e w' ⟨rfl, ⟨nd, rfl⟩⟩; refine ⟨_, rfl, ?_⟩; have p171 : 0 ≤ (x4_1 : Int) := of_decide_eq_true (by first | (with_reducible assumption) | assumption); have q171 : x4_1 < (l0.length : Int) := of_decide_eq_true (by first | (with_reducible assumption) | assumption); obtain ⟨ad171, e171, hx171_0⟩ := Kd.at_string HR0.out x4_1 p171 q171; obtain rfl : ad169 = ad171 := (by injection e171); replace p171 := eq_true p171; replace q171 := eq_true q171))
                  go_roundg k1
                  case measure => have := HK1.out; omega
                  case rel => exact ⟨((x3_1 ++ (⟨#[32]⟩ : ByteArray)) ++ (rdOf ByteArray.empty l0 x4_1)), (wrap64 (x4_1 + 1)), (by first | rfl | (simp; done) | (simp [*]; done)), (by first | rfl | (simp; done) | (simp [*]; done)), H', ⟨by have := HK1.out; omega⟩, by repeat (first | exact Drawn0.refl _ | apply Drawn0.step)⟩
                · rw [if_neg c8] at H
                  exact absurd H (by simp)
              · rw [if_neg c7] at H
                exact absurd H (by simp)
            · rw [if_neg c6] at H
              have c6b0 : decide (0 < x4_1) = false := decide_eq_false c6
              clear c6
              by_cases c9 : x3_1.size + (rdOf ByteArray.empty l0 x4_1).size ≤ 9223372036854775807
              · rw [if_pos c9] at H
                have c9b0 := eq_true c9
                have c9b1 : decide (x3_1.size + (rdOf ByteArray.empty l0 x4_1).size ≤ 9223372036854775807) = true := decide_eq_true c9
                try have c9b2 : (9223372036854775807 < x3_1.size + (rdOf ByteArray.empty l0 x4_1).size) = False := eq_false (Nat.not_lt.2 c9)
                have H' := Aside0.mk H
                clear H
                have p169 : 0 ≤ (x4_1 : Int) := of_decide_eq_true (by first | (with_reducible assumption) | assumption)
                have q169 : x4_1 < (l0.length : Int) := of_decide_eq_true (by first | (with_reducible assumption) | assumption)
                obtain ⟨ad169, e169, hx169_0⟩ := Kd.at_string HR0.out x4_1 p169 q169
                cases e169
                replace p169 := eq_true p169
                replace q169 := eq_true q169
                go_wp2_with (first | ((with_reducible refine gate_callee (f := 55) rfl ?_); refine goesL_ (some 15) rfl rfl Tryd.func55 (by kernel_rfl) rfl #[.string (rdOf ByteArray.empty l0 x4_1)] rfl (by (try simp only [List.map_toArray, List.map_cons, List.map_nil]); first | done | rfl | (simp only [List.length_drop, List.length_take]; rfl)) ?_; (with_reducible refine (afterglowref02_Word.calls k1 (rdOf ByteArray.empty l0 x4_1) true _ A4.out).mono ?_); rintro e w' ⟨rfl, ⟨nd, rfl⟩⟩; refine ⟨_, rfl, ?_⟩; have p172 : 0 ≤ (x4_1 : Int) := of_decide_eq_true (by first | (with_reducible assumption) | assumption); have q172 : x4_1 < (l0.length : Int) := of_decide_eq_true (by first | (with_reducible assumption) | assumption); obtain ⟨ad172, e172, hx172_0⟩ := Kd.at_string HR0.out x4_1 p172 q172; obtain rfl : ad169 = ad172 := (by injection e172); replace p172 := eq_true p172; replace q172 := eq_true q172))
                go_roundg k1
                case measure => have := HK1.out; omega
                case rel => exact ⟨(x3_1 ++ (rdOf ByteArray.empty l0 x4_1)), (wrap64 (x4_1 + 1)), (by first | rfl | (simp; done) | (simp [*]; done)), (by first | rfl | (simp; done) | (simp [*]; done)), H', ⟨by have := HK1.out; omega⟩, by repeat (first | exact Drawn0.refl _ | apply Drawn0.step)⟩
              · rw [if_neg c9] at H
                exact absurd H (by simp)
          · replace c5 := Bool.eq_false_iff.mpr c5
            subst c5
            have H1 : (some (⟨#[]⟩ : ByteArray)) = some r := by rw [if_neg (show ¬ (false = true) by decide)] at H; exact H
            clear H
            have H := H1
            clear H1
            obtain rfl := Option.some.inj H
            have p169 : 0 ≤ (x4_1 : Int) := of_decide_eq_true (by first | (with_reducible assumption) | assumption)
            have q169 : x4_1 < (l0.length : Int) := of_decide_eq_true (by first | (with_reducible assumption) | assumption)
            obtain ⟨ad169, e169, hx169_0⟩ := Kd.at_string HR0.out x4_1 p169 q169
            cases e169
            replace p169 := eq_true p169
            replace q169 := eq_true q169
            go_wp2_with (first | ((with_reducible refine gate_callee (f := 55) rfl ?_); refine goesL_ (some 15) rfl rfl Tryd.func55 (by kernel_rfl) rfl #[.string (rdOf ByteArray.empty l0 x4_1)] rfl (by (try simp only [List.map_toArray, List.map_cons, List.map_nil]); first | done | rfl | (simp only [List.length_drop, List.length_take]; rfl)) ?_; (with_reducible refine (afterglowref02_Word.calls k1 (rdOf ByteArray.empty l0 x4_1) false _ A4.out).mono ?_); rintro e w' ⟨rfl, ⟨nd, rfl⟩⟩; refine ⟨_, rfl, ?_⟩))
            go_ret
            exact ⟨by first | rfl | (simp; done) | (simp [*]; done), by repeat (first | exact Drawn0.refl _ | apply Drawn0.step)⟩
        · rw [if_neg c3] at H
          exact absurd H (by simp)
      · rw [if_neg c2] at H
        have c2b0 : decide (x4_1 < (l0.length : Int)) = false := decide_eq_false c2
        clear c2
        obtain rfl := Option.some.inj H
        go_wp2
        go_ret
        exact ⟨by first | rfl | (simp; done) | (simp [*]; done), by repeat (first | exact Drawn0.refl _ | apply Drawn0.step)⟩

end Go.Proofs.YtaedhehiifkcbaaDoor.PD
