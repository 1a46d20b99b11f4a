import Derived.Test.YtaedhehiifkcbaaDoorSPageAll3
import Derived.Lib.AtoiAll
import Derived.Laws.BitsAllLaws
import Derived.Lib.Join
import Derived.Lib.Split
import Derived.Lib.SplitLaws
import Derived.Lib.IndexBytes
import Derived.Test.YtaedhehiifkcbaaDoorRows
import Derived.ProofKit
import Derived.OpenShut
import Derived.SliceStrings
import Derived.Deep.Slices
import Derived.Deep.Fields
import Derived.Lib.SmallJoins
namespace Go.Proofs.YtaedhehiifkcbaaDoor.PG
open Go.RowKit Go.Proofs.YtaedhehiifkcbaaDoorW.PrintWords Go.Proofs.YtaedhehiifkcbaaDoorW.PrintLast Go.Proofs.YtaedhehiifkcbaaDoorW.PrintMore
attribute [local go_sem] max2_int min2_int max_two min_two max_three min_three max_four min_four   -- for this text's walks alone
set_option linter.unusedVariables false
set_option linter.unusedSimpArgs false
mutual
def afterglowref14_Of.j0 : Nat → List (S39) → Int → Bool → Bool → Int → Int → Int → Int → Option ((List (S39)) × ByteArray × Int)
  | 0, _, _, _, _, _, _, _, _ => none
  | k + 1, x0, x2, x10, x29, x390000, x390001, x390002, x390003 => if x29 = true then (some (([] : List (S39)), (⟨#[]⟩ : ByteArray), 140)) else (afterglowref14_Of.l0 k x0 (mx 1 (mn x2 100)) x10 ([] : List (S39)) false 0 x390000 x390001 x390002 x390003)
def afterglowref14_Of.l0 : Nat → List (S39) → Int → Bool → List (S39) → Bool → Int → Int → Int → Int → Int → Option ((List (S39)) × ByteArray × Int)
  | 0, _, _, _, _, _, _, _, _, _, _ => none
  | k + 1, x0, x2, x10, x11, x12, x13, x390000, x390001, x390002, x390003 => if x13 < (x0.length : Int) then (if 0 ≤ x13 then ((afterglowref14_Key.f k ((rd_T39 x0 x13).f0) ((rd_T39 x0 x13).f1) ((rd_T39 x0 x13).f2) ((rd_T39 x0 x13).f3)).bind fun t395 => (if t395.toList = ([] : List UInt8) then (some (([] : List (S39)), (⟨#[]⟩ : ByteArray), 140)) else (if x10 = true then ((afterglowref08_Ahead.f x390000 x390001 x390002 x390003 ((rd_T39 x0 x13).f0) ((rd_T39 x0 x13).f1) ((rd_T39 x0 x13).f2) ((rd_T39 x0 x13).f3)).bind fun t397 => (afterglowref14_Of.j2 k x0 x2 x10 x11 x12 x13 (!t397) x390000 x390001 x390002 x390003)) else (afterglowref14_Of.j2 k x0 x2 x10 x11 x12 x13 false x390000 x390001 x390002 x390003)))) else (none)) else (if x12 = true then (if 0 ≤ (wrap64 ((x11.length : Int) - 1)) then (if (wrap64 ((x11.length : Int) - 1)) < (x11.length : Int) then ((afterglowref14_Key.f k ((rd_T39 x11 (wrap64 ((x11.length : Int) - 1))).f0) ((rd_T39 x11 (wrap64 ((x11.length : Int) - 1))).f1) ((rd_T39 x11 (wrap64 ((x11.length : Int) - 1))).f2) ((rd_T39 x11 (wrap64 ((x11.length : Int) - 1))).f3)).bind fun t393 => (some (x11, t393, 0))) else (none)) else (none)) else (some (x11, (⟨#[]⟩ : ByteArray), 0)))
def afterglowref14_Of.j2 : Nat → List (S39) → Int → Bool → List (S39) → Bool → Int → Bool → Int → Int → Int → Int → Option ((List (S39)) × ByteArray × Int)
  | 0, _, _, _, _, _, _, _, _, _, _, _ => none
  | k + 1, x0, x2, x10, x11, x12, x13, x54, x390000, x390001, x390002, x390003 => if x54 = true then (afterglowref14_Of.l0 k x0 x2 x10 x11 x12 (wrap64 (x13 + 1)) x390000 x390001 x390002 x390003) else (if (x11.length : Int) < x2 then (if 0 ≤ x13 then (if x13 < (x0.length : Int) then (if x11.length < 4398046511104 then (afterglowref14_Of.l0 k x0 x2 x10 (x11 ++ [(⟨(rd_T39 x0 x13).f0, (rd_T39 x0 x13).f1, (rd_T39 x0 x13).f2, (rd_T39 x0 x13).f3⟩ : S39)]) x12 (wrap64 (x13 + 1)) x390000 x390001 x390002 x390003) else (none)) else (none)) else (none)) else (afterglowref14_Of.l0 k x0 x2 x10 x11 true (wrap64 (x13 + 1)) x390000 x390001 x390002 x390003))
end
def afterglowref14_Of.f (k : Nat) (l0 : List (S39)) (a1 : ByteArray) (a2 : Int) : Option ((List (S39)) × ByteArray × Int) := (afterglowref14_Parse.f k a1).bind fun bt384 => (if bt384.2.2.2.2 = true then ((afterglowref08_Rising.f k l0).bind fun t390 => (afterglowref14_Of.j0 k l0 a2 bt384.2.2.2.2 (!t390) bt384.1 bt384.2.1 bt384.2.2.1 bt384.2.2.2.1)) else (if a1.toList = ([] : List UInt8) then ((afterglowref08_Rising.f k l0).bind fun t391 => (afterglowref14_Of.j0 k l0 a2 bt384.2.2.2.2 (!t391) bt384.1 bt384.2.1 bt384.2.2.1 bt384.2.2.2.1)) else (afterglowref14_Of.j0 k l0 a2 bt384.2.2.2.2 true bt384.1 bt384.2.1 bt384.2.2.1 bt384.2.2.2.1)))
def afterglowref14_Of.T12 : Bool × List (List Nat × List Nat) := (true, [([], []), ([0], [0]), ([1], [1]), ([1], [1]), ([1], [1]), ([3, 4, 1], [1, 3, 4]), ([5, 1], [1, 5]), ([2, 6, 1, 1], [1, 2, 6]), ([7, 1], [1, 7]), ([1, 8], [1, 8])])
def afterglowref14_Of.B12 : List Nat := [0, 1, 3, 3, 3, 27, 59, 127, 255, 511]
theorem afterglowref14_Of.tab12 : rtab .any (opsOf Tryd.f37 12) = afterglowref14_Of.T12 := by kernel_rfl
theorem afterglowref14_Of.bits12 : waitsOk afterglowref14_Of.T12.2 afterglowref14_Of.B12 = true := by kernel_rfl
set_option maxHeartbeats 8000000 in
set_option maxRecDepth 100000 in
theorem afterglowref14_Of.calls (k : Nat) (A0 : Option Addr) (c0 : Nat) (l0 : List (S39)) (a1 : ByteArray) (a2 : Int) (r1 : List (S39)) (r2 : ByteArray) (r3 : Int) (w : World) (hr0 : Kd.C k39 w A0 l0.length l0) (hc0 : l0.length ≤ c0) (h : afterglowref14_Of.f k l0 a1 a2 = some (r1, r2, r3)) :
    Calls Tryd.prog 37 #[.slice A0 l0.length c0, .string a1, .int .i64 a2] w fun e w' => ∃ v0_ : Value, e = .returned (.tuple #[v0_, .string r2, .int .i64 r3]) ∧ Kd.R k39 39 w' w.heap.size (fun _ => True) v0_ r1 ∧ Below w.heap.size w w' := by
  have hu39 := Tryd.underlying39
  have HR0 := Aside0.mk hr0
  have HC0 := Aside0.mk hc0
  clear hr0 hc0
  have HB := Aside0.mk (Below.refl w.heap.size w)
  have H : ((afterglowref14_Parse.f k a1).bind fun bt384 => (if bt384.2.2.2.2 = true then ((afterglowref08_Rising.f k l0).bind fun t390 => (afterglowref14_Of.j0 k l0 a2 bt384.2.2.2.2 (!t390) bt384.1 bt384.2.1 bt384.2.2.1 bt384.2.2.2.1)) else (if a1.toList = ([] : List UInt8) then ((afterglowref08_Rising.f k l0).bind fun t391 => (afterglowref14_Of.j0 k l0 a2 bt384.2.2.2.2 (!t391) bt384.1 bt384.2.1 bt384.2.2.1 bt384.2.2.2.1)) else (afterglowref14_Of.j0 k l0 a2 bt384.2.2.2.2 true bt384.1 bt384.2.1 bt384.2.2.1 bt384.2.2.2.1)))) = some (r1, r2, r3) := h
  clear h
  replace H := Option.bind_eq_some_iff.mp H
  obtain ⟨⟨t384, t385, t386, t387, t388⟩, A40, H⟩ := H
  replace H : (if t388 = true then ((afterglowref08_Rising.f k l0).bind fun t390 => (afterglowref14_Of.j0 k l0 a2 t388 (!t390) t384 t385 t386 t387)) else (if a1.toList = ([] : List UInt8) then ((afterglowref08_Rising.f k l0).bind fun t391 => (afterglowref14_Of.j0 k l0 a2 t388 (!t391) t384 t385 t386 t387)) else (afterglowref14_Of.j0 k l0 a2 t388 true t384 t385 t386 t387))) = some (r1, r2, r3) := H
  have A4 := Aside0.mk A40
  clear A40
  have HC5 := Aside0.mk H
  clear H
  go_enter Tryd.func37, Tryd.ntmps37
  go_upto_region 2 with (first | ((with_reducible refine gate_callee (f := 32) rfl ?_); refine goesL_ (some 16) rfl rfl Tryd.func32 (by kernel_rfl) rfl #[.string a1] rfl (by (try simp only [List.map_toArray, List.map_cons, List.map_nil]); first | done | rfl | (simp only [List.length_drop, List.length_take]; rfl)) ?_; (with_reducible refine (afterglowref14_Parse.calls k a1 t384 t385 t386 t387 t388 _ A4.out).mono ?_); rintro e w6 ⟨rfl, hb⟩; refine ⟨_, rfl, ?_⟩; have n0_ := Aside0.mk (below_step (by repeat (first | (with_reducible first | exact HB.out | apply below_alloc | apply pw_below_drewN | apply below_drew1) | exact HB.out)) hb); clear HB; have HB := n0_; clear n0_; (try clear hb); (try clear hb2); (try clear hk); (try clear hi)) | ((with_reducible refine gate_dst (N := 9) rfl ?_); refine box_event ?hg (N := 9) ?hd (cs := #[.int .i64 0, .int .i64 0, .int .i64 0, .int .i64 0]) (t := 39) ?hr ?_; (case hd => rfl); (case hg => rfl); (case hr => first | (go_simp; done) | (go_simp; rfl)); intro gb389 hg w7 hbox hb; have n0_ := Aside0.mk (below_step (by repeat (first | (with_reducible first | exact HB.out | apply below_alloc | apply pw_below_drewN | apply below_drew1) | exact HB.out)) hb); have n1_ := Aside0.mk (hbox); have n2_ := Aside0.mk ((by rw [hg]; exact (below_size (by repeat (first | (with_reducible first | exact HB.out | apply below_alloc | apply pw_below_drewN | apply below_drew1) | exact HB.out))) : w.heap.size ≤ gb389)); have n3_ := Aside0.mk ((by rw [hg]; exact (below_size (by repeat (first | (with_reducible first | exact HB.out | apply below_alloc | apply pw_below_drewN | apply below_drew1) | exact HB.out))) : w.heap.size ≤ gb389)); clear HB; have HB := n0_; have BK389 := n1_; have GW389 := n2_; have GE389 := n3_; clear n0_ n1_ n2_ n3_; clear hb hbox hg; have hcz8_0 : w7.cell? ⟨gb389, 0, none⟩ = some (.int .i64 0) := (blk_cell BK389.out 0).trans rfl; have hcz8_1 : w7.cell? ⟨gb389, 1, none⟩ = some (.int .i64 0) := (blk_cell BK389.out 1).trans rfl; have hcz8_2 : w7.cell? ⟨gb389, 2, none⟩ = some (.int .i64 0) := (blk_cell BK389.out 2).trans rfl; have hcz8_3 : w7.cell? ⟨gb389, 3, none⟩ = some (.int .i64 0) := (blk_cell BK389.out 3).trans rfl; have hfz8_0 := blk_frozen BK389.out 0; have hfz8_1 := blk_frozen BK389.out 1; have hfz8_2 := blk_frozen BK389.out 2; have hfz8_3 := blk_frozen BK389.out 3))
  (try simp only [Act.put, List.setIfInBounds_toArray, List.set_cons_zero, List.set_cons_succ])
  go_cut [29] (fun v29 wc => ∃ (kq : Nat) (x29_4 : Bool), v29 = .bool x29_4 ∧ Aside0 (afterglowref14_Of.j0 kq l0 a2 t388 x29_4 t384 t385 t386 t387 = some (r1, r2, r3)) ∧ Aside0 (kq ≤ k) ∧ Aside0 (wc.heap[gb389]? = some (.cells #[.int .i64 t384, .int .i64 t385, .int .i64 t386, .int .i64 t387] 39 (0, 0))) ∧ Aside0 (Below w.heap.size w wc))
  case first =>
    have H := HC5.out
    clear HC5
    by_cases c9 : t388 = true
    · subst c9
      have H1 : ((afterglowref08_Rising.f k l0).bind fun t390 => (afterglowref14_Of.j0 k l0 a2 true (!t390) t384 t385 t386 t387)) = some (r1, r2, r3) := by rw [if_pos rfl] at H; exact H
      clear H
      have H := H1
      clear H1
      replace H := Option.bind_eq_some_iff.mp H
      obtain ⟨t390, A100, H⟩ := H
      replace H : (afterglowref14_Of.j0 k l0 a2 true (!t390) t384 t385 t386 t387) = some (r1, r2, r3) := H
      have A10 := Aside0.mk A100
      clear A100
      have H' := Aside0.mk H
      clear H
      go_wp2_with (first | (go_at_call 41; (with_reducible refine (afterglowref08_Rising.calls k _ _ l0 t390 _ ?side1 ?side2 A10.out).mono ?_); (case side1 => exact Kd.C_below HR0.out (by repeat (first | (with_reducible first | exact HB.out | apply below_alloc | apply pw_below_drewN | apply below_drew1 | refine below_set ?_ GE389.out) | exact HB.out))); (case side2 => exact HC0.out); rintro e w11 ⟨rfl, hb⟩; have n0_ := Aside0.mk (blk_below (g := gb389) (o := .cells #[.int .i64 t384, .int .i64 t385, .int .i64 t386, .int .i64 t387] 39 (0, 0)) (by (with_reducible repeat (first | refine blk_drewN ?_ _ | refine blk_drew ?_ | refine blk_alloc ?_ _)); refine blk_put (cs := #[.int .i64 t384, .int .i64 t385, .int .i64 t386, .int .i64 0]) ?_ 3 _ rfl; (with_reducible repeat (first | refine blk_drewN ?_ _ | refine blk_drew ?_ | refine blk_alloc ?_ _)); refine blk_put (cs := #[.int .i64 t384, .int .i64 t385, .int .i64 0, .int .i64 0]) ?_ 2 _ rfl; (with_reducible repeat (first | refine blk_drewN ?_ _ | refine blk_drew ?_ | refine blk_alloc ?_ _)); refine blk_put (cs := #[.int .i64 t384, .int .i64 0, .int .i64 0, .int .i64 0]) ?_ 1 _ rfl; (with_reducible repeat (first | refine blk_drewN ?_ _ | refine blk_drew ?_ | refine blk_alloc ?_ _)); refine blk_put (cs := #[.int .i64 0, .int .i64 0, .int .i64 0, .int .i64 0]) ?_ 0 _ rfl; (with_reducible repeat (first | refine blk_drewN ?_ _ | refine blk_drew ?_ | refine blk_alloc ?_ _)); exact BK389.out) hb); have n1_ := Aside0.mk (below_step (by repeat (first | (with_reducible first | exact HB.out | apply below_alloc | apply pw_below_drewN | apply below_drew1 | refine below_set ?_ GE389.out) | exact HB.out)) hb); clear BK389; clear HB; have BK389 := n0_; have HB := n1_; clear n0_ n1_; (try clear hb); (try clear hb2); (try clear hk); (try clear hi)))
      go_meet
      case rel => exact ⟨_, (!t390), (by first | rfl | (simp; done) | (simp [*]; done)), H', ⟨by first | omega | exact Nat.le_refl _⟩, ⟨by (with_reducible repeat (first | refine blk_drewN ?_ _ | refine blk_drew ?_ | refine blk_alloc ?_ _)); exact BK389.out⟩, ⟨by repeat (first | (with_reducible first | exact HB.out | apply below_alloc | apply pw_below_drewN | apply below_drew1 | refine below_set ?_ GE389.out) | exact HB.out)⟩⟩
    · replace c9 := Bool.eq_false_iff.mpr c9
      subst c9
      have H1 : (if a1.toList = ([] : List UInt8) then ((afterglowref08_Rising.f k l0).bind fun t391 => (afterglowref14_Of.j0 k l0 a2 false (!t391) t384 t385 t386 t387)) else (afterglowref14_Of.j0 k l0 a2 false true t384 t385 t386 t387)) = some (r1, r2, r3) := by rw [if_neg (show ¬ (false = true) by decide)] at H; exact H
      clear H
      have H := H1
      clear H1
      by_cases c12 : a1.toList = ([] : List UInt8)
      · rw [if_pos c12] at H
        have c12b0 : (a1.toList == ([] : List UInt8)) = true := beq_iff_eq.mpr c12
        have c12b1 : (a1.toList != ([] : List UInt8)) = false := bne_eq_false_iff_eq.mpr c12
        clear c12
        (first | rw [c12b0] | (simp only [i64_w, i32_w]; rw [c12b0]) | skip)
        replace H := Option.bind_eq_some_iff.mp H
        obtain ⟨t391, A130, H⟩ := H
        replace H : (afterglowref14_Of.j0 k l0 a2 false (!t391) t384 t385 t386 t387) = some (r1, r2, r3) := H
        have A13 := Aside0.mk A130
        clear A130
        have H' := Aside0.mk H
        clear H
        go_wp2_with (first | (go_at_call 41; (with_reducible refine (afterglowref08_Rising.calls k _ _ l0 t391 _ ?side1 ?side2 A13.out).mono ?_); (case side1 => exact Kd.C_below HR0.out (by repeat (first | (with_reducible first | exact HB.out | apply below_alloc | apply pw_below_drewN | apply below_drew1 | refine below_set ?_ GE389.out) | exact HB.out))); (case side2 => exact HC0.out); rintro e w14 ⟨rfl, hb⟩; have n0_ := Aside0.mk (blk_below (g := gb389) (o := .cells #[.int .i64 t384, .int .i64 t385, .int .i64 t386, .int .i64 t387] 39 (0, 0)) (by (with_reducible repeat (first | refine blk_drewN ?_ _ | refine blk_drew ?_ | refine blk_alloc ?_ _)); refine blk_put (cs := #[.int .i64 t384, .int .i64 t385, .int .i64 t386, .int .i64 0]) ?_ 3 _ rfl; (with_reducible repeat (first | refine blk_drewN ?_ _ | refine blk_drew ?_ | refine blk_alloc ?_ _)); refine blk_put (cs := #[.int .i64 t384, .int .i64 t385, .int .i64 0, .int .i64 0]) ?_ 2 _ rfl; (with_reducible repeat (first | refine blk_drewN ?_ _ | refine blk_drew ?_ | refine blk_alloc ?_ _)); refine blk_put (cs := #[.int .i64 t384, .int .i64 0, .int .i64 0, .int .i64 0]) ?_ 1 _ rfl; (with_reducible repeat (first | refine blk_drewN ?_ _ | refine blk_drew ?_ | refine blk_alloc ?_ _)); refine blk_put (cs := #[.int .i64 0, .int .i64 0, .int .i64 0, .int .i64 0]) ?_ 0 _ rfl; (with_reducible repeat (first | refine blk_drewN ?_ _ | refine blk_drew ?_ | refine blk_alloc ?_ _)); exact BK389.out) hb); have n1_ := Aside0.mk (below_step (by repeat (first | (with_reducible first | exact HB.out | apply below_alloc | apply pw_below_drewN | apply below_drew1 | refine below_set ?_ GE389.out) | exact HB.out)) hb); clear BK389; clear HB; have BK389 := n0_; have HB := n1_; clear n0_ n1_; (try clear hb); (try clear hb2); (try clear hk); (try clear hi)))
        go_meet
        case rel => exact ⟨_, (!t391), (by first | rfl | (simp; done) | (simp [*]; done)), H', ⟨by first | omega | exact Nat.le_refl _⟩, ⟨by (with_reducible repeat (first | refine blk_drewN ?_ _ | refine blk_drew ?_ | refine blk_alloc ?_ _)); exact BK389.out⟩, ⟨by repeat (first | (with_reducible first | exact HB.out | apply below_alloc | apply pw_below_drewN | apply below_drew1 | refine below_set ?_ GE389.out) | exact HB.out)⟩⟩
      · rw [if_neg c12] at H
        have c12b0 : (a1.toList == ([] : List UInt8)) = false := beq_eq_false_iff_ne.mpr c12
        have c12b1 : (a1.toList != ([] : List UInt8)) = true := bne_iff_ne.mpr c12
        (first | rw [c12b0] | (simp only [i64_w, i32_w]; rw [c12b0]) | skip)
        have H' := Aside0.mk H
        clear H
        go_wp2
        go_meet
        case rel => exact ⟨_, (true), (by first | rfl | (simp; done) | (simp [*]; done)), H', ⟨by first | omega | exact Nat.le_refl _⟩, ⟨by (with_reducible repeat (first | refine blk_drewN ?_ _ | refine blk_drew ?_ | refine blk_alloc ?_ _)); refine blk_put (cs := #[.int .i64 t384, .int .i64 t385, .int .i64 t386, .int .i64 0]) ?_ 3 _ rfl; (with_reducible repeat (first | refine blk_drewN ?_ _ | refine blk_drew ?_ | refine blk_alloc ?_ _)); refine blk_put (cs := #[.int .i64 t384, .int .i64 t385, .int .i64 0, .int .i64 0]) ?_ 2 _ rfl; (with_reducible repeat (first | refine blk_drewN ?_ _ | refine blk_drew ?_ | refine blk_alloc ?_ _)); refine blk_put (cs := #[.int .i64 t384, .int .i64 0, .int .i64 0, .int .i64 0]) ?_ 1 _ rfl; (with_reducible repeat (first | refine blk_drewN ?_ _ | refine blk_drew ?_ | refine blk_alloc ?_ _)); refine blk_put (cs := #[.int .i64 0, .int .i64 0, .int .i64 0, .int .i64 0]) ?_ 0 _ rfl; (with_reducible repeat (first | refine blk_drewN ?_ _ | refine blk_drew ?_ | refine blk_alloc ?_ _)); exact BK389.out⟩, ⟨by repeat (first | (with_reducible first | exact HB.out | apply below_alloc | apply pw_below_drewN | apply below_drew1 | refine below_set ?_ GE389.out) | exact HB.out)⟩⟩
  case rest =>
    clear HC5
    try clear c1
    try clear p2
    try clear c3
    try clear c9
    try clear c12
    try clear c12b0
    try clear c12b1
    try clear hcz8_0
    try clear hcz8_1
    try clear hcz8_2
    try clear hcz8_3
    try clear hfz8_0
    try clear hfz8_1
    try clear hfz8_2
    try clear hfz8_3
    obtain ⟨kq, x29_4, rfl, HA, HJ4, BK389, HB⟩ := hcut
    cases kq with
    | zero => exact absurd HA.out (by simp [afterglowref14_Of.j0])
    | succ kj4 =>
      have H := HA.out
      clear HA
      simp only [afterglowref14_Of.j0] at H
      by_cases c15 : x29_4 = true
      · subst c15
        have H1 : (some (([] : List (S39)), (⟨#[]⟩ : ByteArray), 140)) = some (r1, r2, r3) := by rw [if_pos rfl] at H; exact H
        clear H
        have H := H1
        clear H1
        simp only [Option.some.injEq, Prod.mk.injEq] at H
        obtain ⟨rfl, rfl, rfl⟩ := H
        go_wp2
        go_ret3
        exact ⟨_, by first | rfl | (simp [errW_none, errW_some] <;> rfl) | (simp [*, errW_none, errW_some] <;> rfl), by first | exact Kd.R_nil _ _ _ _ _ | exact Kd.N_nil _ _ _ _ _ | exact Kd.V_nil _ _ _ _ _ | exact Kd.Q_nil _ _ _ _ _ | exact Kd.S_nil _ _ _ _ _, by repeat (first | (with_reducible first | exact HB.out | apply below_alloc | apply pw_below_drewN | apply below_drew1 | refine below_set ?_ GE389.out) | exact HB.out)⟩
      · replace c15 := Bool.eq_false_iff.mpr c15
        subst c15
        have H1 : (afterglowref14_Of.l0 kj4 l0 (mx 1 (mn a2 100)) t388 ([] : List (S39)) false 0 t384 t385 t386 t387) = some (r1, r2, r3) := by rw [if_neg (show ¬ (false = true) by decide)] at H; exact H
        clear H
        have H := H1
        clear H1
        obtain ⟨ji16, hji16⟩ : ∃ j_ : Int, (mn a2 100) = j_ := ⟨_, rfl⟩
        replace H : (afterglowref14_Of.l0 kj4 l0 (mx 1 (ji16)) t388 ([] : List (S39)) false 0 t384 t385 t386 t387) = some (r1, r2, r3) := by first | (rw [hji16] at H; exact H) | (simp only [hji16] at H ⊢; exact H)
        have hji16_ : (if 100 < a2 then 100 else a2) = ji16 := hji16
        obtain ⟨ji17, hji17⟩ : ∃ j_ : Int, (mx 1 (ji16)) = j_ := ⟨_, rfl⟩
        replace H : (afterglowref14_Of.l0 kj4 l0 ji17 t388 ([] : List (S39)) false 0 t384 t385 t386 t387) = some (r1, r2, r3) := by first | (rw [hji17] at H; exact H) | (simp only [hji17] at H ⊢; exact H)
        have hji17_ : (if 1 < (ji16) then (ji16) else 1) = ji17 := hji17
        have H' := Aside0.mk H
        clear H
        go_wp2
        go_loopg [11, 12, 13] kj4 (fun kq v11 v12 v13 w' => ∃ (x11_2 : List (S39)) (x12_2 : Bool) (x13_2 : Int), v12 = .bool x12_2 ∧ v13 = .int .i64 x13_2 ∧ Aside0 (afterglowref14_Of.l0 kq l0 ji17 t388 x11_2 x12_2 x13_2 t384 t385 t386 t387 = some (r1, r2, r3)) ∧ Aside0 (kq ≤ kj4) ∧ Aside0 (Kd.R k39 39 w' w.heap.size (fun k_ => k_ ≠ gb389) v11 x11_2) ∧ Aside0 (w'.heap[gb389]? = some (.cells #[.int .i64 t384, .int .i64 t385, .int .i64 t386, .int .i64 t387] 39 (0, 0))) ∧ Aside0 (Below w.heap.size w w'))
        case atStart => exact ⟨(([] : List (S39))), (false), (0), (by first | rfl | (simp; done) | (simp [*]; done)), (by first | rfl | (simp; done) | (simp [*]; done)), H', ⟨Nat.le_refl _⟩, ⟨by first | exact Kd.R_nil _ _ _ _ _ | exact Kd.N_nil _ _ _ _ _ | exact Kd.V_nil _ _ _ _ _ | exact Kd.Q_nil _ _ _ _ _ | exact Kd.S_nil _ _ _ _ _⟩, ⟨by (with_reducible repeat (first | refine blk_drewN ?_ _ | refine blk_drew ?_ | refine blk_alloc ?_ _)); exact BK389.out⟩, ⟨by repeat (first | (with_reducible first | exact HB.out | apply below_alloc | apply pw_below_drewN | apply below_drew1 | refine below_set ?_ GE389.out) | exact HB.out)⟩⟩
        case round =>
          clear H'
          try clear c1
          try clear p2
          try clear c3
          try clear c9
          try clear c12
          try clear c12b0
          try clear c12b1
          try clear c15
          try clear hcz8_0
          try clear hcz8_1
          try clear hcz8_2
          try clear hcz8_3
          try clear hfz8_0
          try clear hfz8_1
          try clear hfz8_2
          try clear hfz8_3
          try clear p2
          obtain ⟨x11_2, x12_2, x13_2, rfl, rfl, HA, HK2, HO_11, BK389, HB⟩ := hrel
          cases gk with
          | zero => exact absurd HA.out (by simp [afterglowref14_Of.l0])
          | succ k2 =>
            have H := HA.out
            clear HA
            simp only [afterglowref14_Of.l0] at H
            by_cases c18 : x13_2 < (l0.length : Int)
            · rw [if_pos c18] at H
              have c18b0 : decide (x13_2 < (l0.length : Int)) = true := decide_eq_true c18
              clear c18
              by_cases c19 : 0 ≤ x13_2
              · rw [if_pos c19] at H
                have c19b0 : decide (0 ≤ x13_2) = true := decide_eq_true c19
                clear c19
                replace H := Option.bind_eq_some_iff.mp H
                obtain ⟨t395, A200, H⟩ := H
                replace H : (if t395.toList = ([] : List UInt8) then (some (([] : List (S39)), (⟨#[]⟩ : ByteArray), 140)) else (if t388 = true then ((afterglowref08_Ahead.f t384 t385 t386 t387 ((rd_T39 l0 x13_2).f0) ((rd_T39 l0 x13_2).f1) ((rd_T39 l0 x13_2).f2) ((rd_T39 l0 x13_2).f3)).bind fun t397 => (afterglowref14_Of.j2 k2 l0 ji17 t388 x11_2 x12_2 x13_2 (!t397) t384 t385 t386 t387)) else (afterglowref14_Of.j2 k2 l0 ji17 t388 x11_2 x12_2 x13_2 false t384 t385 t386 t387))) = some (r1, r2, r3) := H
                have A20 := Aside0.mk A200
                clear A200
                by_cases c21 : t395.toList = ([] : List UInt8)
                · rw [if_pos c21] at H
                  have c21b0 : (t395.toList == ([] : List UInt8)) = true := beq_iff_eq.mpr c21
                  have c21b1 : (t395.toList != ([] : List UInt8)) = false := bne_eq_false_iff_eq.mpr c21
                  clear c21
                  simp only [Option.some.injEq, Prod.mk.injEq] at H
                  obtain ⟨rfl, rfl, rfl⟩ := H
                  have p394 : 0 ≤ (x13_2 : Int) := of_decide_eq_true (by first | (with_reducible assumption) | assumption)
                  have q394 : x13_2 < (l0.length : Int) := of_decide_eq_true (by first | (with_reducible assumption) | assumption)
                  obtain ⟨ad394, e394, hx394_0, hx394_1, hx394_2, hx394_3⟩ := at_T39 HR0.out x13_2 p394 q394
                  cases e394
                  replace hx394_0 := (HB.out.cell (World.block_lt_of_cell? w _ hx394_0)).trans hx394_0
                  replace hx394_1 := (HB.out.cell (World.block_lt_of_cell? w _ hx394_1)).trans hx394_1
                  replace hx394_2 := (HB.out.cell (World.block_lt_of_cell? w _ hx394_2)).trans hx394_2
                  replace hx394_3 := (HB.out.cell (World.block_lt_of_cell? w _ hx394_3)).trans hx394_3
                  replace p394 := eq_true p394
                  replace q394 := eq_true q394
                  go_wp2_with (first | ((with_reducible refine gate_callee (f := 33) rfl ?_); refine goesL_ (some 43) rfl rfl Tryd.func33 (by kernel_rfl) rfl #[.agg #[.int .i64 ((rd_T39 l0 x13_2).f0), .int .i64 ((rd_T39 l0 x13_2).f1), .int .i64 ((rd_T39 l0 x13_2).f2), .int .i64 ((rd_T39 l0 x13_2).f3)]] rfl (by (try simp only [List.map_toArray, List.map_cons, List.map_nil]); first | done | rfl | (simp only [List.length_drop, List.length_take]; rfl)) ?_; (with_reducible refine (afterglowref14_Key.calls k2 ((rd_T39 l0 x13_2).f0) ((rd_T39 l0 x13_2).f1) ((rd_T39 l0 x13_2).f2) ((rd_T39 l0 x13_2).f3) t395 _ A20.out).mono ?_); rintro e w22 ⟨rfl, hb⟩; refine ⟨_, rfl, ?_⟩; have n0_ := Aside0.mk (Kd.R_below (by (with_reducible repeat (first | apply Kd.R_alloc | apply Kd.R_drewN | apply Kd.R_drew)); exact HO_11.out) hb); have n1_ := Aside0.mk (blk_below (g := gb389) (o := .cells #[.int .i64 t384, .int .i64 t385, .int .i64 t386, .int .i64 t387] 39 (0, 0)) (by (with_reducible repeat (first | refine blk_drewN ?_ _ | refine blk_drew ?_ | refine blk_alloc ?_ _)); exact BK389.out) hb); have n2_ := Aside0.mk (below_step (by repeat (first | (with_reducible first | exact HB.out | apply below_alloc | apply pw_below_drewN | apply below_drew1 | refine below_set ?_ GE389.out) | exact HB.out)) hb); clear HO_11; clear BK389; clear HB; have HO_11 := n0_; have BK389 := n1_; have HB := n2_; clear n0_ n1_ n2_; (try clear hb); (try clear hb2); (try clear hk); (try clear hi)))
                  go_ret3
                  exact ⟨_, by first | rfl | (simp [errW_none, errW_some] <;> rfl) | (simp only [← hji16, ← hji17]; first | rfl | (simp [errW_none, errW_some] <;> rfl)) | (simp [*, errW_none, errW_some] <;> rfl), by first | exact Kd.R_nil _ _ _ _ _ | exact Kd.N_nil _ _ _ _ _ | exact Kd.V_nil _ _ _ _ _ | exact Kd.Q_nil _ _ _ _ _ | exact Kd.S_nil _ _ _ _ _, by repeat (first | (with_reducible first | exact HB.out | apply below_alloc | apply pw_below_drewN | apply below_drew1 | refine below_set ?_ GE389.out) | exact HB.out)⟩
                · rw [if_neg c21] at H
                  have c21b0 : (t395.toList == ([] : List UInt8)) = false := beq_eq_false_iff_ne.mpr c21
                  have c21b1 : (t395.toList != ([] : List UInt8)) = true := bne_iff_ne.mpr c21
                  have HC23 := Aside0.mk H
                  clear H
                  have p394 : 0 ≤ (x13_2 : Int) := of_decide_eq_true (by first | (with_reducible assumption) | assumption)
                  have q394 : x13_2 < (l0.length : Int) := of_decide_eq_true (by first | (with_reducible assumption) | assumption)
                  obtain ⟨ad394, e394, hx394_0, hx394_1, hx394_2, hx394_3⟩ := at_T39 HR0.out x13_2 p394 q394
                  cases e394
                  replace hx394_0 := (HB.out.cell (World.block_lt_of_cell? w _ hx394_0)).trans hx394_0
                  replace hx394_1 := (HB.out.cell (World.block_lt_of_cell? w _ hx394_1)).trans hx394_1
                  replace hx394_2 := (HB.out.cell (World.block_lt_of_cell? w _ hx394_2)).trans hx394_2
                  replace hx394_3 := (HB.out.cell (World.block_lt_of_cell? w _ hx394_3)).trans hx394_3
                  replace p394 := eq_true p394
                  replace q394 := eq_true q394
                  go_upto_region 12 with (first | ((with_reducible refine gate_callee (f := 33) rfl ?_); refine goesL_ (some 43) rfl rfl Tryd.func33 (by kernel_rfl) rfl #[.agg #[.int .i64 ((rd_T39 l0 x13_2).f0), .int .i64 ((rd_T39 l0 x13_2).f1), .int .i64 ((rd_T39 l0 x13_2).f2), .int .i64 ((rd_T39 l0 x13_2).f3)]] rfl (by (try simp only [List.map_toArray, List.map_cons, List.map_nil]); first | done | rfl | (simp only [List.length_drop, List.length_take]; rfl)) ?_; (with_reducible refine (afterglowref14_Key.calls k2 ((rd_T39 l0 x13_2).f0) ((rd_T39 l0 x13_2).f1) ((rd_T39 l0 x13_2).f2) ((rd_T39 l0 x13_2).f3) t395 _ A20.out).mono ?_); rintro e w24 ⟨rfl, hb⟩; refine ⟨_, rfl, ?_⟩; have n0_ := Aside0.mk (Kd.R_below (by (with_reducible repeat (first | apply Kd.R_alloc | apply Kd.R_drewN | apply Kd.R_drew)); exact HO_11.out) hb); have n1_ := Aside0.mk (blk_below (g := gb389) (o := .cells #[.int .i64 t384, .int .i64 t385, .int .i64 t386, .int .i64 t387] 39 (0, 0)) (by (with_reducible repeat (first | refine blk_drewN ?_ _ | refine blk_drew ?_ | refine blk_alloc ?_ _)); exact BK389.out) hb); have n2_ := Aside0.mk (below_step (by repeat (first | (with_reducible first | exact HB.out | apply below_alloc | apply pw_below_drewN | apply below_drew1 | refine below_set ?_ GE389.out) | exact HB.out)) hb); clear HO_11; clear BK389; clear HB; have HO_11 := n0_; have BK389 := n1_; have HB := n2_; clear n0_ n1_ n2_; (try clear hb); (try clear hb2); (try clear hk); (try clear hi)))
                  (try simp only [Act.put, List.setIfInBounds_toArray, List.set_cons_zero, List.set_cons_succ])
                  go_cut [54] (fun v54 wc => ∃ (kq : Nat) (x54_22 : Bool), v54 = .bool x54_22 ∧ Aside0 (afterglowref14_Of.j2 kq l0 ji17 t388 x11_2 x12_2 x13_2 x54_22 t384 t385 t386 t387 = some (r1, r2, r3)) ∧ Aside0 (kq ≤ k2) ∧ Aside0 (Kd.R k39 39 wc w.heap.size (fun k_ => k_ ≠ gb389) u11 x11_2) ∧ Aside0 (wc.heap[gb389]? = some (.cells #[.int .i64 t384, .int .i64 t385, .int .i64 t386, .int .i64 t387] 39 (0, 0))) ∧ Aside0 (Below w.heap.size w wc))
                  case first =>
                    have H := HC23.out
                    clear HC23
                    by_cases c25 : t388 = true
                    · subst c25
                      have H1 : ((afterglowref08_Ahead.f t384 t385 t386 t387 ((rd_T39 l0 x13_2).f0) ((rd_T39 l0 x13_2).f1) ((rd_T39 l0 x13_2).f2) ((rd_T39 l0 x13_2).f3)).bind fun t397 => (afterglowref14_Of.j2 k2 l0 ji17 true x11_2 x12_2 x13_2 (!t397) t384 t385 t386 t387)) = some (r1, r2, r3) := by rw [if_pos rfl] at H; exact H
                      clear H
                      have H := H1
                      clear H1
                      replace H := Option.bind_eq_some_iff.mp H
                      obtain ⟨t397, A260, H⟩ := H
                      replace H : (afterglowref14_Of.j2 k2 l0 ji17 true x11_2 x12_2 x13_2 (!t397) t384 t385 t386 t387) = some (r1, r2, r3) := H
                      have A26 := Aside0.mk A260
                      clear A260
                      have H' := Aside0.mk H
                      clear H
                      try go_wp2
                      have n0_ := Aside0.mk (Kd.R_drew HO_11.out)
                      have n1_ := Aside0.mk (blk_drew BK389.out)
                      have n2_ := Aside0.mk (below_drew1 HB.out)
                      clear HO_11
                      clear BK389
                      clear HB
                      have HO_11 := n0_
                      have BK389 := n1_
                      have HB := n2_
                      clear n0_ n1_ n2_
                      have p396 : 0 ≤ (x13_2 : Int) := of_decide_eq_true (by first | (with_reducible assumption) | assumption)
                      have q396 : x13_2 < (l0.length : Int) := of_decide_eq_true (by first | (with_reducible assumption) | assumption)
                      obtain ⟨ad396, e396, hx396_0, hx396_1, hx396_2, hx396_3⟩ := at_T39 HR0.out x13_2 p396 q396
                      have hw396_3 := hx396_3
                      have hw396_2 := hx396_2
                      have hw396_1 := hx396_1
                      have hw396_0 := hx396_0
                      obtain rfl : ad394 = ad396 := (by injection e396)
                      replace hx396_0 := (HB.out.cell (World.block_lt_of_cell? w _ hx396_0)).trans hx396_0
                      replace hx396_1 := (HB.out.cell (World.block_lt_of_cell? w _ hx396_1)).trans hx396_1
                      replace hx396_2 := (HB.out.cell (World.block_lt_of_cell? w _ hx396_2)).trans hx396_2
                      replace hx396_3 := (HB.out.cell (World.block_lt_of_cell? w _ hx396_3)).trans hx396_3
                      replace p396 := eq_true p396
                      replace q396 := eq_true q396
                      refine start_ (n := 10) (S := fun w' => w'.cell? ⟨gb389, 0, none⟩ = some (.int .i64 t384) ∧ w'.cell? ⟨gb389, 1, none⟩ = some (.int .i64 t385) ∧ w'.cell? ⟨gb389, 2, none⟩ = some (.int .i64 t386) ∧ w'.cell? ⟨gb389, 3, none⟩ = some (.int .i64 t387) ∧ w'.cell? (ad394.add ((x13_2).toNat * 4)) = some (.int .i64 ((rd_T39 l0 x13_2).f0)) ∧ w'.cell? ⟨(ad394.add ((x13_2).toNat * 4)).block, (ad394.add ((x13_2).toNat * 4)).off + 1, none⟩ = some (.int .i64 ((rd_T39 l0 x13_2).f1)) ∧ w'.cell? ⟨(ad394.add ((x13_2).toNat * 4)).block, (ad394.add ((x13_2).toNat * 4)).off + 2, none⟩ = some (.int .i64 ((rd_T39 l0 x13_2).f2)) ∧ w'.cell? ⟨(ad394.add ((x13_2).toNat * 4)).block, (ad394.add ((x13_2).toNat * 4)).off + 3, none⟩ = some (.int .i64 ((rd_T39 l0 x13_2).f3))) (ds := []) #[false, false, false, false, false, false, false, false, false, false] (by kernel_rfl) rfl rfl ⟨(blk_cell BK389.out 0).trans rfl, (blk_cell BK389.out 1).trans rfl, (blk_cell BK389.out 2).trans rfl, (blk_cell BK389.out 3).trans rfl, ((HB.out.cell (World.block_lt_of_cell? w _ hw396_0)).trans hw396_0), ((HB.out.cell (World.block_lt_of_cell? w _ hw396_1)).trans hw396_1), ((HB.out.cell (World.block_lt_of_cell? w _ hw396_2)).trans hw396_2), ((HB.out.cell (World.block_lt_of_cell? w _ hw396_3)).trans hw396_3)⟩ (fun hHeld => ?_); refine with_tabW afterglowref14_Of.tab12 afterglowref14_Of.bits12 (fun HT_ HW_ => ?_)
                      generalize w24.drew = w27 at HO_11 BK389 HB hx396_0 hx396_1 hx396_2 hx396_3 hHeld ⊢
                      refine pure_ (i := 0) (N := some 45) (v := ?_) (a' := ?_) #[true, false, false, false, false, false, false, false, false, false] rfl rfl (any_of HT_.out (by kernel_rfl)) (fun _ _ _ h => h) (Or.inl ⟨by rfl, ?_⟩) ?_ ?_
                      rotate_left
                      · intro w'
                        go_simp
                        with_reducible rfl
                      rotate_left
                      · simp only [Act.put, List.setIfInBounds_toArray, List.set_cons_zero, List.set_cons_succ, i64_w, i32_w]
                        rfl
                      refine pure_ (i := 1) (N := some 46) (v := ?_) (a' := ?_) #[true, true, false, false, false, false, false, false, false, false] rfl rfl (any_of HT_.out (by kernel_rfl)) (fun _ _ _ h => h) (Or.inl ⟨by rfl, ?_⟩) ?_ ?_
                      rotate_left
                      · intro w'
                        go_simp
                        with_reducible rfl
                      rotate_left
                      · simp only [Act.put, List.setIfInBounds_toArray, List.set_cons_zero, List.set_cons_succ, i64_w, i32_w]
                        rfl
                      refine pure_ (i := 3) (N := some 48) (v := ?_) (a' := ?_) #[true, true, false, true, false, false, false, false, false, false] rfl rfl (any_of HT_.out (by kernel_rfl)) (fun _ _ _ h => h) (Or.inl ⟨by rfl, ?_⟩) ?_ ?_
                      rotate_left
                      · intro w'
                        go_simp
                        with_reducible rfl
                      rotate_left
                      · simp only [Act.put, List.setIfInBounds_toArray, List.set_cons_zero, List.set_cons_succ, i64_w, i32_w]
                        rfl
                      refine pure_ (i := 4) (N := some 49) (v := ?_) (a' := ?_) #[true, true, false, true, true, false, false, false, false, false] rfl rfl (any_of HT_.out (by kernel_rfl)) (fun _ _ _ h => h) (Or.inl ⟨by rfl, ?_⟩) ?_ ?_
                      rotate_left
                      · intro w'
                        go_simp
                        with_reducible rfl
                      rotate_left
                      · simp only [Act.put, List.setIfInBounds_toArray, List.set_cons_zero, List.set_cons_succ, i64_w, i32_w]
                        rfl
                      refine pure_ (i := 5) (N := some 50) (v := ?_) (a' := ?_) #[true, true, false, true, true, true, false, false, false, false] rfl rfl (any_of HT_.out (by kernel_rfl)) (fun _ _ _ h => h) (Or.inl ⟨by rfl, ?_⟩) ?_ ?_
                      rotate_left
                      · intro w'
                        go_simp
                        with_reducible rfl
                      rotate_left
                      · simp only [Act.put, List.setIfInBounds_toArray, List.set_cons_zero, List.set_cons_succ, i64_w, i32_w]
                        rfl
                      refine take_ (i := 2) (N := some 47) (v := ?_) (a' := ?_) #[true, true, true, true, true, true, false, false, false, false] rfl rfl (take_ofW HT_.out HW_.out (by kernel_rfl)) (fun _ _ _ h => h) (Or.inl ⟨by rfl, ?_⟩) hHeld ?_ ?_
                      rotate_left
                      · rintro w' ⟨s0, s1, s2, s3, s4, s5, s6, s7⟩
                        go_simp
                        with_reducible rfl
                      rotate_left
                      · simp only [Act.put, List.setIfInBounds_toArray, List.set_cons_zero, List.set_cons_succ, i64_w, i32_w]
                        rfl
                      refine take_ (i := 6) (N := some 51) (v := ?_) (a' := ?_) #[true, true, true, true, true, true, true, false, false, false] rfl rfl (take_ofW HT_.out HW_.out (by kernel_rfl)) (fun _ _ _ h => h) (Or.inl ⟨by rfl, ?_⟩) hHeld ?_ ?_
                      rotate_left
                      · rintro w' ⟨s0, s1, s2, s3, s4, s5, s6, s7⟩
                        go_simp
                        with_reducible rfl
                      rotate_left
                      · simp only [Act.put, List.setIfInBounds_toArray, List.set_cons_zero, List.set_cons_succ, i64_w, i32_w]
                        rfl
                      refine one_ (i := 7) (N := some 52) #[true, true, true, true, true, true, true, true, false, false] rfl rfl (one_of HT_.out (by kernel_rfl)) (by decide) (fun K hK => ?_)
                      refine goes_ Tryd.func43 (by kernel_rfl) rfl #[.agg #[.int .i64 t384, .int .i64 t385, .int .i64 t386, .int .i64 t387], .agg #[.int .i64 ((rd_T39 l0 x13_2).f0), .int .i64 ((rd_T39 l0 x13_2).f1), .int .i64 ((rd_T39 l0 x13_2).f2), .int .i64 ((rd_T39 l0 x13_2).f3)]] (by rfl) rfl rfl (by (try simp only [List.map_toArray, List.map_cons, List.map_nil]); first | done | rfl | (simp only [List.length_drop, List.length_take]; rfl)) ?_
                      with_reducible refine (afterglowref08_Ahead.calls t384 t385 t386 t387 ((rd_T39 l0 x13_2).f0) ((rd_T39 l0 x13_2).f1) ((rd_T39 l0 x13_2).f2) ((rd_T39 l0 x13_2).f3) t397 _ A26.out).mono ?_
                      rintro e w28 ⟨rfl, hb⟩
                      refine ⟨_, rfl, ?_⟩
                      have n0_ := Aside0.mk (Kd.R_below (by (with_reducible repeat (first | apply Kd.R_alloc | apply Kd.R_drewN | apply Kd.R_drew)); exact HO_11.out) hb)
                      have n1_ := Aside0.mk (blk_below (g := gb389) (o := .cells #[.int .i64 t384, .int .i64 t385, .int .i64 t386, .int .i64 t387] 39 (0, 0)) (by (with_reducible repeat (first | refine blk_drewN ?_ _ | refine blk_drew ?_ | refine blk_alloc ?_ _)); exact BK389.out) hb)
                      have n2_ := Aside0.mk (below_step (by repeat (first | (with_reducible first | exact HB.out | apply below_alloc | apply pw_below_drewN | apply below_drew1 | refine below_set ?_ GE389.out) | exact HB.out)) hb)
                      clear HO_11
                      clear BK389
                      clear HB
                      have HO_11 := n0_
                      have BK389 := n1_
                      have HB := n2_
                      clear n0_ n1_ n2_
                      (try clear hb)
                      (try clear hb2)
                      (try clear hk)
                      (try clear hi)
                      refine hK.out _ _ ⟨(blk_cell BK389.out 0).trans rfl, (blk_cell BK389.out 1).trans rfl, (blk_cell BK389.out 2).trans rfl, (blk_cell BK389.out 3).trans rfl, ((HB.out.cell (World.block_lt_of_cell? w _ hw396_0)).trans hw396_0), ((HB.out.cell (World.block_lt_of_cell? w _ hw396_1)).trans hw396_1), ((HB.out.cell (World.block_lt_of_cell? w _ hw396_2)).trans hw396_2), ((HB.out.cell (World.block_lt_of_cell? w _ hw396_3)).trans hw396_3)⟩ (fun hHeld => ?_)
                      clear hK K
                      refine norm_ (a' := ?_) ?_ ?_
                      rotate_left
                      · show Act.put _ (some 52) _ = _
                        simp only [Act.put, List.setIfInBounds_toArray, List.set_cons_zero, List.set_cons_succ, i64_w, i32_w]
                        rfl
                      refine pure_ (i := 8) (N := some 53) (v := ?_) (a' := ?_) #[true, true, true, true, true, true, true, true, true, false] rfl rfl (any_of HT_.out (by kernel_rfl)) (fun _ _ _ h => h) (Or.inl ⟨by rfl, ?_⟩) ?_ ?_
                      rotate_left
                      · intro w'
                        go_simp
                        with_reducible rfl
                      rotate_left
                      · simp only [Act.put, List.setIfInBounds_toArray, List.set_cons_zero, List.set_cons_succ, i64_w, i32_w]
                        rfl
                      refine pure_ (i := 9) (N := some 54) (v := ?_) (a' := ?_) #[true, true, true, true, true, true, true, true, true, true] rfl rfl (any_of HT_.out (by kernel_rfl)) (fun _ _ _ h => h) (Or.inl ⟨by rfl, ?_⟩) ?_ ?_
                      rotate_left
                      · intro w'
                        go_simp
                        with_reducible rfl
                      rotate_left
                      · simp only [Act.put, List.setIfInBounds_toArray, List.set_cons_zero, List.set_cons_succ, i64_w, i32_w]
                        rfl
                      refine done_ (done_of HT_.out (by kernel_rfl)) ?_
                      try go_wp2
                      go_meet
                      case rel => exact ⟨_, (!t397), (by first | rfl | (simp; done) | (simp [*]; done)), H', ⟨by have := HJ4.out; have := HK2.out; first | omega | exact Nat.le_refl _⟩, ⟨by (with_reducible repeat (first | apply Kd.R_alloc | apply Kd.R_drewN | apply Kd.R_drew)); exact HO_11.out⟩, ⟨by (with_reducible repeat (first | refine blk_drewN ?_ _ | refine blk_drew ?_ | refine blk_alloc ?_ _)); exact BK389.out⟩, ⟨by repeat (first | (with_reducible first | exact HB.out | apply below_alloc | apply pw_below_drewN | apply below_drew1 | refine below_set ?_ GE389.out) | exact HB.out)⟩⟩
                    · replace c25 := Bool.eq_false_iff.mpr c25
                      subst c25
                      have H1 : (afterglowref14_Of.j2 k2 l0 ji17 false x11_2 x12_2 x13_2 false t384 t385 t386 t387) = some (r1, r2, r3) := by rw [if_neg (show ¬ (false = true) by decide)] at H; exact H
                      clear H
                      have H := H1
                      clear H1
                      have H' := Aside0.mk H
                      clear H
                      try go_wp2
                      have n0_ := Aside0.mk (Kd.R_drew HO_11.out)
                      have n1_ := Aside0.mk (blk_drew BK389.out)
                      have n2_ := Aside0.mk (below_drew1 HB.out)
                      clear HO_11
                      clear BK389
                      clear HB
                      have HO_11 := n0_
                      have BK389 := n1_
                      have HB := n2_
                      clear n0_ n1_ n2_
                      refine start_ (n := 10) (S := fun w' => True) (ds := []) #[false, false, false, false, false, false, false, false, false, false] (by kernel_rfl) rfl rfl trivial (fun hHeld => ?_); refine with_tabW afterglowref14_Of.tab12 afterglowref14_Of.bits12 (fun HT_ HW_ => ?_)
                      generalize w24.drew = w29 at HO_11 BK389 HB hHeld ⊢
                      refine pure_ (i := 0) (N := some 45) (v := ?_) (a' := ?_) #[true, false, false, false, false, false, false, false, false, false] rfl rfl (any_of HT_.out (by kernel_rfl)) (fun _ _ _ h => h) (Or.inl ⟨by rfl, ?_⟩) ?_ ?_
                      rotate_left
                      · intro w'
                        go_simp
                        with_reducible rfl
                      rotate_left
                      · simp only [Act.put, List.setIfInBounds_toArray, List.set_cons_zero, List.set_cons_succ, i64_w, i32_w]
                        rfl
                      refine pure_ (i := 1) (N := some 46) (v := ?_) (a' := ?_) #[true, true, false, false, false, false, false, false, false, false] rfl rfl (any_of HT_.out (by kernel_rfl)) (fun _ _ _ h => h) (Or.inl ⟨by rfl, ?_⟩) ?_ ?_
                      rotate_left
                      · intro w'
                        go_simp
                        with_reducible rfl
                      rotate_left
                      · simp only [Act.put, List.setIfInBounds_toArray, List.set_cons_zero, List.set_cons_succ, i64_w, i32_w]
                        rfl
                      refine pure_ (i := 2) (N := some 47) (v := undef) (a' := ?_) #[true, true, true, false, false, false, false, false, false, false] rfl rfl (any_of HT_.out (by kernel_rfl)) (fun _ _ _ h => h) (Or.inr ⟨by rfl, rfl⟩) ?_ ?_
                      rotate_left
                      · simp only [Act.put, List.setIfInBounds_toArray, List.set_cons_zero, List.set_cons_succ, i64_w, i32_w]
                        rfl
                      refine pure_ (i := 3) (N := some 48) (v := undef) (a' := ?_) #[true, true, true, true, false, false, false, false, false, false] rfl rfl (any_of HT_.out (by kernel_rfl)) (fun _ _ _ h => h) (Or.inr ⟨by rfl, rfl⟩) ?_ ?_
                      rotate_left
                      · simp only [Act.put, List.setIfInBounds_toArray, List.set_cons_zero, List.set_cons_succ, i64_w, i32_w]
                        rfl
                      refine pure_ (i := 4) (N := some 49) (v := undef) (a' := ?_) #[true, true, true, true, true, false, false, false, false, false] rfl rfl (any_of HT_.out (by kernel_rfl)) (fun _ _ _ h => h) (Or.inr ⟨by rfl, rfl⟩) ?_ ?_
                      rotate_left
                      · simp only [Act.put, List.setIfInBounds_toArray, List.set_cons_zero, List.set_cons_succ, i64_w, i32_w]
                        rfl
                      refine pure_ (i := 5) (N := some 50) (v := undef) (a' := ?_) #[true, true, true, true, true, true, false, false, false, false] rfl rfl (any_of HT_.out (by kernel_rfl)) (fun _ _ _ h => h) (Or.inr ⟨by rfl, rfl⟩) ?_ ?_
                      rotate_left
                      · simp only [Act.put, List.setIfInBounds_toArray, List.set_cons_zero, List.set_cons_succ, i64_w, i32_w]
                        rfl
                      refine pure_ (i := 6) (N := some 51) (v := undef) (a' := ?_) #[true, true, true, true, true, true, true, false, false, false] rfl rfl (any_of HT_.out (by kernel_rfl)) (fun _ _ _ h => h) (Or.inr ⟨by rfl, rfl⟩) ?_ ?_
                      rotate_left
                      · simp only [Act.put, List.setIfInBounds_toArray, List.set_cons_zero, List.set_cons_succ, i64_w, i32_w]
                        rfl
                      refine pure_ (i := 7) (N := some 52) (v := undef) (a' := ?_) #[true, true, true, true, true, true, true, true, false, false] rfl rfl (any_of HT_.out (by kernel_rfl)) (fun _ _ _ h => h) (Or.inr ⟨by rfl, rfl⟩) ?_ ?_
                      rotate_left
                      · simp only [Act.put, List.setIfInBounds_toArray, List.set_cons_zero, List.set_cons_succ, i64_w, i32_w]
                        rfl
                      refine pure_ (i := 8) (N := some 53) (v := undef) (a' := ?_) #[true, true, true, true, true, true, true, true, true, false] rfl rfl (any_of HT_.out (by kernel_rfl)) (fun _ _ _ h => h) (Or.inr ⟨by rfl, rfl⟩) ?_ ?_
                      rotate_left
                      · simp only [Act.put, List.setIfInBounds_toArray, List.set_cons_zero, List.set_cons_succ, i64_w, i32_w]
                        rfl
                      refine pure_ (i := 9) (N := some 54) (v := ?_) (a' := ?_) #[true, true, true, true, true, true, true, true, true, true] rfl rfl (any_of HT_.out (by kernel_rfl)) (fun _ _ _ h => h) (Or.inl ⟨by rfl, ?_⟩) ?_ ?_
                      rotate_left
                      · intro w'
                        go_simp
                        with_reducible rfl
                      rotate_left
                      · simp only [Act.put, List.setIfInBounds_toArray, List.set_cons_zero, List.set_cons_succ, i64_w, i32_w]
                        rfl
                      refine done_ (done_of HT_.out (by kernel_rfl)) ?_
                      try go_wp2
                      go_meet
                      case rel => exact ⟨_, (false), (by first | rfl | (simp; done) | (simp [*]; done)), H', ⟨by have := HJ4.out; have := HK2.out; first | omega | exact Nat.le_refl _⟩, ⟨by (with_reducible repeat (first | apply Kd.R_alloc | apply Kd.R_drewN | apply Kd.R_drew)); exact HO_11.out⟩, ⟨by (with_reducible repeat (first | refine blk_drewN ?_ _ | refine blk_drew ?_ | refine blk_alloc ?_ _)); exact BK389.out⟩, ⟨by repeat (first | (with_reducible first | exact HB.out | apply below_alloc | apply pw_below_drewN | apply below_drew1 | refine below_set ?_ GE389.out) | exact HB.out)⟩⟩
                  case rest =>
                    clear HC23
                    try clear c1
                    try clear c2
                    try clear p2
                    try clear c3
                    try clear p3
                    try clear q3
                    try clear hx3
                    try clear c4
                    try clear c9
                    try clear c12
                    try clear c12b0
                    try clear c12b1
                    try clear c15
                    try clear c18
                    try clear c18b0
                    try clear c19
                    try clear c19b0
                    try clear c21
                    try clear c21b0
                    try clear c21b1
                    try clear c25
                    try clear hcz8_0
                    try clear hcz8_1
                    try clear hcz8_2
                    try clear hcz8_3
                    try clear hfz8_0
                    try clear hfz8_1
                    try clear hfz8_2
                    try clear hfz8_3
                    try clear hx394_0
                    try clear hx394_1
                    try clear hx394_2
                    try clear hx394_3
                    try clear hx396_0
                    try clear hx396_1
                    try clear hx396_2
                    try clear hx396_3
                    try clear p2
                    try clear p394
                    try clear p396
                    try clear q394
                    try clear q396
                    obtain ⟨kq, x54_22, rfl, HA, HJ22, HO_11, BK389, HB⟩ := hcut
                    cases kq with
                    | zero => exact absurd HA.out (by simp [afterglowref14_Of.j2])
                    | succ kj22 =>
                      have H := HA.out
                      clear HA
                      simp only [afterglowref14_Of.j2] at H
                      by_cases c30 : x54_22 = true
                      · subst c30
                        have H1 : (afterglowref14_Of.l0 kj22 l0 ji17 t388 x11_2 x12_2 (wrap64 (x13_2 + 1)) t384 t385 t386 t387) = some (r1, r2, r3) := by rw [if_pos rfl] at H; exact H
                        clear H
                        have H := H1
                        clear H1
                        have H' := Aside0.mk H
                        clear H
                        go_wp2
                        go_roundg kj22
                        case measure => have := HJ4.out; have := HK2.out; have := HJ22.out; omega
                        case rel => exact ⟨(x11_2), (x12_2), (wrap64 (x13_2 + 1)), (by first | rfl | (simp; done) | (simp [*]; done)), (by first | rfl | (simp; done) | (simp [*]; done)), H', ⟨by have := HJ4.out; have := HK2.out; have := HJ22.out; omega⟩, ⟨by (with_reducible repeat (first | apply Kd.R_alloc | apply Kd.R_drewN | apply Kd.R_drew)); exact HO_11.out⟩, ⟨by (with_reducible repeat (first | refine blk_drewN ?_ _ | refine blk_drew ?_ | refine blk_alloc ?_ _)); exact BK389.out⟩, ⟨by repeat (first | (with_reducible first | exact HB.out | apply below_alloc | apply pw_below_drewN | apply below_drew1 | refine below_set ?_ GE389.out) | exact HB.out)⟩⟩
                      · replace c30 := Bool.eq_false_iff.mpr c30
                        subst c30
                        have H1 : (if (x11_2.length : Int) < ji17 then (if 0 ≤ x13_2 then (if x13_2 < (l0.length : Int) then (if x11_2.length < 4398046511104 then (afterglowref14_Of.l0 kj22 l0 ji17 t388 (x11_2 ++ [(⟨(rd_T39 l0 x13_2).f0, (rd_T39 l0 x13_2).f1, (rd_T39 l0 x13_2).f2, (rd_T39 l0 x13_2).f3⟩ : S39)]) x12_2 (wrap64 (x13_2 + 1)) t384 t385 t386 t387) else (none)) else (none)) else (none)) else (afterglowref14_Of.l0 kj22 l0 ji17 t388 x11_2 true (wrap64 (x13_2 + 1)) t384 t385 t386 t387)) = some (r1, r2, r3) := by rw [if_neg (show ¬ (false = true) by decide)] at H; exact H
                        clear H
                        have H := H1
                        clear H1
                        by_cases c31 : (x11_2.length : Int) < ji17
                        · rw [if_pos c31] at H
                          have c31b0 : decide ((x11_2.length : Int) < ji17) = true := decide_eq_true c31
                          clear c31
                          by_cases c32 : 0 ≤ x13_2
                          · rw [if_pos c32] at H
                            have c32b0 : decide (0 ≤ x13_2) = true := decide_eq_true c32
                            clear c32
                            by_cases c33 : x13_2 < (l0.length : Int)
                            · rw [if_pos c33] at H
                              have c33b0 : decide (x13_2 < (l0.length : Int)) = true := decide_eq_true c33
                              clear c33
                              by_cases c34 : x11_2.length < 4398046511104
                              · rw [if_pos c34] at H
                                have LMc34 := Aside0.mk c34
                                clear c34
                                obtain ⟨y399, hy399⟩ : ∃ y_ : List (S39), y_ = (x11_2 ++ [(⟨(rd_T39 l0 x13_2).f0, (rd_T39 l0 x13_2).f1, (rd_T39 l0 x13_2).f2, (rd_T39 l0 x13_2).f3⟩ : S39)]) := ⟨_, rfl⟩
                                replace H : (afterglowref14_Of.l0 kj22 l0 ji17 t388 y399 x12_2 (wrap64 (x13_2 + 1)) t384 t385 t386 t387) = some (r1, r2, r3) := by first | (rw [hy399]; with_reducible exact H) | (have H2_ := (Option.bind_some _ _).symm.trans H; rw [hy399]; with_reducible exact H2_) | (have H2_ := (Option.bind_some _ _).symm.trans H; with_reducible exact H2_) | with_reducible exact H | (rw [hy399]; exact H) | exact H
                                have Ny399 := Aside0.mk hy399
                                clear hy399
                                have H' := Aside0.mk H
                                clear H
                                obtain ⟨Ao35, co35, eo35⟩ := Kd.R_slice HO_11.out
                                subst eo35
                                have p398 : 0 ≤ (x13_2 : Int) := of_decide_eq_true (by first | (with_reducible assumption) | assumption)
                                have q398 : x13_2 < (l0.length : Int) := of_decide_eq_true (by first | (with_reducible assumption) | assumption)
                                obtain ⟨ad398, e398, hx398_0, hx398_1, hx398_2, hx398_3⟩ := at_T39 HR0.out x13_2 p398 q398
                                obtain rfl : ad394 = ad398 := (by injection e398)
                                replace hx398_0 := (HB.out.cell (World.block_lt_of_cell? w _ hx398_0)).trans hx398_0
                                replace hx398_1 := (HB.out.cell (World.block_lt_of_cell? w _ hx398_1)).trans hx398_1
                                replace hx398_2 := (HB.out.cell (World.block_lt_of_cell? w _ hx398_2)).trans hx398_2
                                replace hx398_3 := (HB.out.cell (World.block_lt_of_cell? w _ hx398_3)).trans hx398_3
                                replace p398 := eq_true p398
                                replace q398 := eq_true q398
                                go_wp2_with (first | ((with_reducible refine gate_builtin (b := .append) (xs := #[.tmp 59, .tmp 64]) rfl ?_); at_builtin; refine Kd.R_append k39 (w0 := w) w.heap.size rfl (.tmp 59) (.tmp 64) 53 39 (.agg #[(.int .i64 0), (.int .i64 0), (.int .i64 0), (.int .i64 0)]) 32 rfl Tryd.underlying53 info39 rfl (by decide) (by omega) (.slice Ao35 x11_2.length co35) x11_2 (⟨(rd_T39 l0 x13_2).f0, (rd_T39 l0 x13_2).f1, (rd_T39 l0 x13_2).f2, (rd_T39 l0 x13_2).f3⟩ : S39) [.int .i64 ((rd_T39 l0 x13_2).f0), .int .i64 ((rd_T39 l0 x13_2).f1), .int .i64 ((rd_T39 l0 x13_2).f2), .int .i64 ((rd_T39 l0 x13_2).f3)] (fun k_ => k_ ≠ gb389) (fun _ => False) rfl rfl ?aP (fun _ hk => hk.elim) ?aF ?aO ?aB ?aS ?aL ?_; (case aP => exact k39_mkM _ _ _ (⟨(rd_T39 l0 x13_2).f0, (rd_T39 l0 x13_2).f1, (rd_T39 l0 x13_2).f2, (rd_T39 l0 x13_2).f3⟩ : S39)); (case aB => exact (by repeat (first | (with_reducible first | exact HB.out | apply below_alloc | apply pw_below_drewN | apply below_drew1 | refine below_set ?_ GE389.out) | exact HB.out))); (case aF => exact (fun k_ hk => Kd.freshB (g := gb389) (o := .cells #[.int .i64 t384, .int .i64 t385, .int .i64 t386, .int .i64 t387] 39 (0, 0)) (by (with_reducible repeat (first | refine blk_drewN ?_ _ | refine blk_drew ?_ | refine blk_alloc ?_ _)); exact BK389.out) k_ hk)); (case aO => exact (by (with_reducible repeat (first | apply Kd.R_alloc | apply Kd.R_drewN | apply Kd.R_drew)); exact HO_11.out)); (case aS => exact (below_size (by repeat (first | (with_reducible first | exact HB.out | apply below_alloc | apply pw_below_drewN | apply below_drew1 | refine below_set ?_ GE389.out) | exact HB.out)))); (case aL => have := LMc34.out; omega); intro v400 w36 ho hb hg hat; rw [← Ny399.out] at ho; have n0_ := Aside0.mk (blk_grown (g := gb389) (o := .cells #[.int .i64 t384, .int .i64 t385, .int .i64 t386, .int .i64 t387] 39 (0, 0)) (by (with_reducible repeat (first | refine blk_drewN ?_ _ | refine blk_drew ?_ | refine blk_alloc ?_ _)); exact BK389.out) hg (Kd.R_away HO_11.out (fun _ hk => hk))); have n1_ := Aside0.mk (hb); have n2_ := Aside0.mk (ho); clear BK389; clear HB; clear HO_11; have BK389 := n0_; have HB := n1_; have HO401 := n2_; clear n0_ n1_ n2_; clear ho hb hg hat))
                                go_roundg kj22
                                case measure => have := HJ4.out; have := HK2.out; have := HJ22.out; omega
                                case rel => exact ⟨(y399), (x12_2), (wrap64 (x13_2 + 1)), (by first | rfl | (simp; done) | (simp [*]; done)), (by first | rfl | (simp; done) | (simp [*]; done)), H', ⟨by have := HJ4.out; have := HK2.out; have := HJ22.out; omega⟩, ⟨by (with_reducible repeat (first | apply Kd.R_alloc | apply Kd.R_drewN | apply Kd.R_drew)); exact HO401.out⟩, ⟨by (with_reducible repeat (first | refine blk_drewN ?_ _ | refine blk_drew ?_ | refine blk_alloc ?_ _)); exact BK389.out⟩, ⟨by repeat (first | (with_reducible first | exact HB.out | apply below_alloc | apply pw_below_drewN | apply below_drew1 | refine below_set ?_ GE389.out) | exact HB.out)⟩⟩
                              · rw [if_neg c34] at H
                                exact absurd H (by simp)
                            · rw [if_neg c33] at H
                              exact absurd H (by simp)
                          · rw [if_neg c32] at H
                            exact absurd H (by simp)
                        · rw [if_neg c31] at H
                          have c31b0 : decide ((x11_2.length : Int) < ji17) = false := decide_eq_false c31
                          clear c31
                          have H' := Aside0.mk H
                          clear H
                          obtain ⟨Ao37, co37, eo37⟩ := Kd.R_slice HO_11.out
                          subst eo37
                          go_wp2
                          go_roundg kj22
                          case measure => have := HJ4.out; have := HK2.out; have := HJ22.out; omega
                          case rel => exact ⟨(x11_2), (true), (wrap64 (x13_2 + 1)), (by first | rfl | (simp; done) | (simp [*]; done)), (by first | rfl | (simp; done) | (simp [*]; done)), H', ⟨by have := HJ4.out; have := HK2.out; have := HJ22.out; omega⟩, ⟨by (with_reducible repeat (first | apply Kd.R_alloc | apply Kd.R_drewN | apply Kd.R_drew)); exact HO_11.out⟩, ⟨by (with_reducible repeat (first | refine blk_drewN ?_ _ | refine blk_drew ?_ | refine blk_alloc ?_ _)); exact BK389.out⟩, ⟨by repeat (first | (with_reducible first | exact HB.out | apply below_alloc | apply pw_below_drewN | apply below_drew1 | refine below_set ?_ GE389.out) | exact HB.out)⟩⟩
              · rw [if_neg c19] at H
                exact absurd H (by simp)
            · rw [if_neg c18] at H
              have c18b0 : decide (x13_2 < (l0.length : Int)) = false := decide_eq_false c18
              clear c18
              by_cases c38 : x12_2 = true
              · subst c38
                have H1 : (if 0 ≤ (wrap64 ((x11_2.length : Int) - 1)) then (if (wrap64 ((x11_2.length : Int) - 1)) < (x11_2.length : Int) then ((afterglowref14_Key.f k2 ((rd_T39 x11_2 (wrap64 ((x11_2.length : Int) - 1))).f0) ((rd_T39 x11_2 (wrap64 ((x11_2.length : Int) - 1))).f1) ((rd_T39 x11_2 (wrap64 ((x11_2.length : Int) - 1))).f2) ((rd_T39 x11_2 (wrap64 ((x11_2.length : Int) - 1))).f3)).bind fun t393 => (some (x11_2, t393, 0))) else (none)) else (none)) = some (r1, r2, r3) := by rw [if_pos rfl] at H; exact H
                clear H
                have H := H1
                clear H1
                obtain ⟨ji39, hji39⟩ : ∃ j_ : Int, (wrap64 ((x11_2.length : Int) - 1)) = j_ := ⟨_, rfl⟩
                replace H : (if 0 ≤ (ji39) then (if (ji39) < (x11_2.length : Int) then ((afterglowref14_Key.f k2 ((rd_T39 x11_2 (ji39)).f0) ((rd_T39 x11_2 (ji39)).f1) ((rd_T39 x11_2 (ji39)).f2) ((rd_T39 x11_2 (ji39)).f3)).bind fun t393 => (some (x11_2, t393, 0))) else (none)) else (none)) = some (r1, r2, r3) := by first | (rw [hji39] at H; exact H) | (simp only [hji39] at H ⊢; exact H)
                have hji39w : (IntKind.i64.wrap ((x11_2.length : Int) - 1)) = ji39 := (i64_w _).trans hji39
                by_cases c40 : 0 ≤ (ji39)
                · rw [if_pos c40] at H
                  have c40b0 : decide (0 ≤ (ji39)) = true := decide_eq_true c40
                  clear c40
                  by_cases c41 : (ji39) < (x11_2.length : Int)
                  · rw [if_pos c41] at H
                    have c41b0 : decide ((ji39) < (x11_2.length : Int)) = true := decide_eq_true c41
                    clear c41
                    replace H := Option.bind_eq_some_iff.mp H
                    obtain ⟨t393, A420, H⟩ := H
                    replace H : (some (x11_2, t393, 0)) = some (r1, r2, r3) := H
                    have A42 := Aside0.mk A420
                    clear A420
                    simp only [Option.some.injEq, Prod.mk.injEq] at H
                    obtain ⟨rfl, rfl, rfl⟩ := H
                    obtain ⟨Ao43, co43, eo43⟩ := Kd.R_slice HO_11.out
                    subst eo43
                    have p392 : 0 ≤ ((ji39) : Int) := of_decide_eq_true (by first | (with_reducible assumption) | assumption)
                    have q392 : (ji39) < (x11_2.length : Int) := of_decide_eq_true (by first | (with_reducible assumption) | assumption)
                    obtain ⟨ad392, e392, hx392_0, hx392_1, hx392_2, hx392_3⟩ := at_T39 (Kd.R_reads' HO_11.out).2.2 (ji39) p392 q392
                    cases e392
                    replace p392 := eq_true p392
                    replace q392 := eq_true q392
                    go_wp2_with (first | ((with_reducible refine gate_callee (f := 33) rfl ?_); refine goesL_ (some 76) rfl rfl Tryd.func33 (by kernel_rfl) rfl #[.agg #[.int .i64 ((rd_T39 x11_2 (ji39)).f0), .int .i64 ((rd_T39 x11_2 (ji39)).f1), .int .i64 ((rd_T39 x11_2 (ji39)).f2), .int .i64 ((rd_T39 x11_2 (ji39)).f3)]] rfl (by (try simp only [List.map_toArray, List.map_cons, List.map_nil]); first | done | (simp only [hji39]; rfl) | rfl | (simp only [List.length_drop, List.length_take]; rfl)) ?_; (with_reducible refine (afterglowref14_Key.calls k2 ((rd_T39 x11_2 (ji39)).f0) ((rd_T39 x11_2 (ji39)).f1) ((rd_T39 x11_2 (ji39)).f2) ((rd_T39 x11_2 (ji39)).f3) t393 _ A42.out).mono ?_); rintro e w44 ⟨rfl, hb⟩; refine ⟨_, rfl, ?_⟩; have n0_ := Aside0.mk (Kd.R_below (by (with_reducible repeat (first | apply Kd.R_alloc | apply Kd.R_drewN | apply Kd.R_drew)); exact HO_11.out) hb); have n1_ := Aside0.mk (blk_below (g := gb389) (o := .cells #[.int .i64 t384, .int .i64 t385, .int .i64 t386, .int .i64 t387] 39 (0, 0)) (by (with_reducible repeat (first | refine blk_drewN ?_ _ | refine blk_drew ?_ | refine blk_alloc ?_ _)); exact BK389.out) hb); have n2_ := Aside0.mk (below_step (by repeat (first | (with_reducible first | exact HB.out | apply below_alloc | apply pw_below_drewN | apply below_drew1 | refine below_set ?_ GE389.out) | exact HB.out)) hb); clear HO_11; clear BK389; clear HB; have HO_11 := n0_; have BK389 := n1_; have HB := n2_; clear n0_ n1_ n2_; (try clear hb); (try clear hb2); (try clear hk); (try clear hi)))
                    go_ret3
                    exact ⟨_, by first | rfl | (simp [errW_none, errW_some] <;> rfl) | (simp only [← hji16, ← hji17, ← hji39]; first | rfl | (simp [errW_none, errW_some] <;> rfl)) | (simp [*, errW_none, errW_some] <;> rfl), by (with_reducible repeat (first | apply Kd.R_alloc | apply Kd.R_drewN | apply Kd.R_drew)); exact Kd.R_mono HO_11.out (fun _ hk => trivial), by repeat (first | (with_reducible first | exact HB.out | apply below_alloc | apply pw_below_drewN | apply below_drew1 | refine below_set ?_ GE389.out) | exact HB.out)⟩
                  · rw [if_neg c41] at H
                    exact absurd H (by simp)
                · rw [if_neg c40] at H
                  exact absurd H (by simp)
              · replace c38 := Bool.eq_false_iff.mpr c38
                subst c38
                have H1 : (some (x11_2, (⟨#[]⟩ : ByteArray), 0)) = some (r1, r2, r3) := by rw [if_neg (show ¬ (false = true) by decide)] at H; exact H
                clear H
                have H := H1
                clear H1
                simp only [Option.some.injEq, Prod.mk.injEq] at H
                obtain ⟨rfl, rfl, rfl⟩ := H
                go_wp2
                go_ret3
                exact ⟨_, by first | rfl | (simp [errW_none, errW_some] <;> rfl) | (simp only [← hji16, ← hji17]; first | rfl | (simp [errW_none, errW_some] <;> rfl)) | (simp [*, errW_none, errW_some] <;> rfl), by (with_reducible repeat (first | apply Kd.R_alloc | apply Kd.R_drewN | apply Kd.R_drew)); exact Kd.R_mono HO_11.out (fun _ hk => trivial), by repeat (first | (with_reducible first | exact HB.out | apply below_alloc | apply pw_below_drewN | apply below_drew1 | refine below_set ?_ GE389.out) | exact HB.out)⟩
def afterglowlaw08_Olds.l0 : Nat → List (S39) → List (S44) → Int → Int → Option ((List (S39)))
  | 0, _, _, _, _ => none
  | k + 1, x3, x6, x7, x8 => if x8 < x7 then (if 0 ≤ x8 then (if x8 < (x6.length : Int) then ((afterglowlaw08_Old.f ((rd_T44 x6 x8).f0.f0) ((rd_T44 x6 x8).f0.f1) ((rd_T44 x6 x8).f1) ((rd_T44 x6 x8).f2)).bind fun bt404 => (if x3.length < 4398046511104 then (afterglowlaw08_Olds.l0 k (x3 ++ [(⟨bt404.1, bt404.2.1, bt404.2.2.1, bt404.2.2.2⟩ : S39)]) x6 x7 (wrap64 (x8 + 1))) else (none))) else (none)) else (none)) else (some x3)
def afterglowlaw08_Olds.f (k : Nat) (l0 : List (S44)) : Option ((List (S39))) := afterglowlaw08_Olds.l0 k ([] : List (S39)) l0 (l0.length : Int) 0
set_option maxHeartbeats 8000000 in
set_option maxRecDepth 100000 in
theorem afterglowlaw08_Olds.calls (k : Nat) (A0 : Option Addr) (c0 : Nat) (l0 : List (S44)) (r : List (S39)) (w : World) (hr0 : Kd.C k44 w A0 l0.length l0) (hc0 : l0.length ≤ c0) (h : afterglowlaw08_Olds.f k l0 = some r) :
    Calls Tryd.prog 38 #[.slice A0 l0.length c0] w fun e w' => ∃ v0_ : Value, e = .returned (v0_) ∧ Kd.R k39 39 w' w.heap.size (fun _ => True) v0_ r ∧ Below w.heap.size w w' := by
  have hu44 := Tryd.underlying44
  have HR0 := Aside0.mk hr0
  have HC0 := Aside0.mk hc0
  clear hr0 hc0
  have HB := Aside0.mk (Below.refl w.heap.size w)
  have H : (afterglowlaw08_Olds.l0 k ([] : List (S39)) l0 (l0.length : Int) 0) = some r := h
  clear h
  have H' := Aside0.mk H
  clear H
  go_enter Tryd.func38, Tryd.ntmps38
  go_wp2
  go_loopg [3, 8] k (fun kq v3 v8 w' => ∃ (x3_1 : List (S39)) (x8_1 : Int), v8 = .int .i64 x8_1 ∧ Aside0 (afterglowlaw08_Olds.l0 kq x3_1 l0 (l0.length : Int) x8_1 = some r) ∧ Aside0 (kq ≤ k) ∧ Aside0 (Kd.R k39 39 w' w.heap.size (fun _ => True) v3 x3_1) ∧ Aside0 (Below w.heap.size w w'))
  case atStart => exact ⟨(([] : List (S39))), (0), (by first | rfl | (simp; done) | (simp [*]; done)), H', ⟨Nat.le_refl _⟩, ⟨by first | exact Kd.R_nil _ _ _ _ _ | exact Kd.N_nil _ _ _ _ _ | exact Kd.V_nil _ _ _ _ _ | exact Kd.Q_nil _ _ _ _ _ | exact Kd.S_nil _ _ _ _ _⟩, ⟨by repeat (first | (with_reducible first | exact HB.out | apply below_alloc | apply pw_below_drewN | apply below_drew1) | exact HB.out)⟩⟩
  case round =>
    clear H'
    obtain ⟨x3_1, x8_1, rfl, HA, HK1, HO_3, HB⟩ := hrel
    cases gk with
    | zero => exact absurd HA.out (by simp [afterglowlaw08_Olds.l0])
    | succ k1 =>
      have H := HA.out
      clear HA
      simp only [afterglowlaw08_Olds.l0] at H
      by_cases c2 : x8_1 < (l0.length : Int)
      · rw [if_pos c2] at H
        have c2b0 : decide (x8_1 < (l0.length : Int)) = true := decide_eq_true c2
        clear c2
        by_cases c3 : 0 ≤ x8_1
        · rw [if_pos c3] at H
          have c3b0 : decide (0 ≤ x8_1) = true := decide_eq_true c3
          clear c3
          by_cases c4 : x8_1 < (l0.length : Int)
          · rw [if_pos c4] at H
            have c4b0 : decide (x8_1 < (l0.length : Int)) = true := decide_eq_true c4
            clear c4
            replace H := Option.bind_eq_some_iff.mp H
            obtain ⟨⟨t404, t405, t406, t407⟩, A50, H⟩ := H
            replace H : (if x3_1.length < 4398046511104 then (afterglowlaw08_Olds.l0 k1 (x3_1 ++ [(⟨t404, t405, t406, t407⟩ : S39)]) l0 (l0.length : Int) (wrap64 (x8_1 + 1))) else (none)) = some r := H
            have A5 := Aside0.mk A50
            clear A50
            by_cases c6 : x3_1.length < 4398046511104
            · rw [if_pos c6] at H
              have LMc6 := Aside0.mk c6
              clear c6
              obtain ⟨y408, hy408⟩ : ∃ y_ : List (S39), y_ = (x3_1 ++ [(⟨t404, t405, t406, t407⟩ : S39)]) := ⟨_, rfl⟩
              replace H : (afterglowlaw08_Olds.l0 k1 y408 l0 (l0.length : Int) (wrap64 (x8_1 + 1))) = some r := by first | (rw [hy408]; with_reducible exact H) | (have H2_ := (Option.bind_some _ _).symm.trans H; rw [hy408]; with_reducible exact H2_) | (have H2_ := (Option.bind_some _ _).symm.trans H; with_reducible exact H2_) | with_reducible exact H | (rw [hy408]; exact H) | exact H
              have Ny408 := Aside0.mk hy408
              clear hy408
              have H' := Aside0.mk H
              clear H
              have p402 : 0 ≤ (x8_1 : Int) := of_decide_eq_true (by first | (with_reducible assumption) | assumption)
              have q402 : x8_1 < (l0.length : Int) := of_decide_eq_true (by first | (with_reducible assumption) | assumption)
              obtain ⟨ad402, e402, hx402_0, hx402_1, hx402_2, hx402_3⟩ := at_T44 HR0.out x8_1 p402 q402
              cases e402
              replace hx402_0 := (HB.out.cell (World.block_lt_of_cell? w _ hx402_0)).trans hx402_0
              replace hx402_1 := (HB.out.cell (World.block_lt_of_cell? w _ hx402_1)).trans hx402_1
              replace hx402_2 := (HB.out.cell (World.block_lt_of_cell? w _ hx402_2)).trans hx402_2
              replace hx402_3 := (HB.out.cell (World.block_lt_of_cell? w _ hx402_3)).trans hx402_3
              replace p402 := eq_true p402
              replace q402 := eq_true q402
              go_wp2_with (first | ((with_reducible refine gate_dst (N := 5) rfl ?_); refine box_event ?hg (N := 5) ?hd (cs := #[.int .i64 0, .int .i64 0, .int .i64 0, .int .i64 0]) (t := 44) ?hr ?_; (case hd => rfl); (case hg => rfl); (case hr => first | (go_simp; done) | (go_simp; rfl)); intro gb403 hg w7 hbox hb; have n0_ := Aside0.mk (Kd.R_below (by (with_reducible repeat (first | apply Kd.R_alloc | apply Kd.R_drewN | apply Kd.R_drew)); exact HO_3.out) hb); have n1_ := Aside0.mk (below_step (by repeat (first | (with_reducible first | exact HB.out | apply below_alloc | apply pw_below_drewN | apply below_drew1) | exact HB.out)) hb); have n2_ := Aside0.mk (hbox); have n3_ := Aside0.mk ((by rw [hg]; exact (below_size (by repeat (first | (with_reducible first | exact HB.out | apply below_alloc | apply pw_below_drewN | apply below_drew1) | exact HB.out))) : w.heap.size ≤ gb403)); have n4_ := Aside0.mk ((by rw [hg]; exact (below_size (by repeat (first | (with_reducible first | exact HB.out | apply below_alloc | apply pw_below_drewN | apply below_drew1) | exact HB.out))) : w.heap.size ≤ gb403)); clear HO_3; clear HB; have HO_3 := n0_; have HB := n1_; have BK403 := n2_; have GW403 := n3_; have GE403 := n4_; clear n0_ n1_ n2_ n3_ n4_; clear hb hbox hg; have hcz8_0 : w7.cell? ⟨gb403, 0, none⟩ = some (.int .i64 0) := (blk_cell BK403.out 0).trans rfl; have hcz8_1 : w7.cell? ⟨gb403, 1, none⟩ = some (.int .i64 0) := (blk_cell BK403.out 1).trans rfl; have hcz8_2 : w7.cell? ⟨gb403, 2, none⟩ = some (.int .i64 0) := (blk_cell BK403.out 2).trans rfl; have hcz8_3 : w7.cell? ⟨gb403, 3, none⟩ = some (.int .i64 0) := (blk_cell BK403.out 3).trans rfl; have hfz8_0 := blk_frozen BK403.out 0; have hfz8_1 := blk_frozen BK403.out 1; have hfz8_2 := blk_frozen BK403.out 2; have hfz8_3 := blk_frozen BK403.out 3) | ((with_reducible refine gate_callee (f := 34) rfl ?_); refine goesL_ (some 14) rfl rfl Tryd.func34 (by kernel_rfl) rfl #[.agg #[.int .i64 ((rd_T44 l0 x8_1).f0.f0), .int .i64 ((rd_T44 l0 x8_1).f0.f1), .int .i64 ((rd_T44 l0 x8_1).f1), .int .i64 ((rd_T44 l0 x8_1).f2)]] rfl (by (try simp only [List.map_toArray, List.map_cons, List.map_nil]); first | done | rfl | (simp only [List.length_drop, List.length_take]; rfl)) ?_; (with_reducible refine (afterglowlaw08_Old.calls ((rd_T44 l0 x8_1).f0.f0) ((rd_T44 l0 x8_1).f0.f1) ((rd_T44 l0 x8_1).f1) ((rd_T44 l0 x8_1).f2) t404 t405 t406 t407 _ A5.out).mono ?_); rintro e w9 ⟨rfl, hb⟩; refine ⟨_, rfl, ?_⟩; have n0_ := Aside0.mk (Kd.R_below (by (with_reducible repeat (first | apply Kd.R_alloc | apply Kd.R_drewN | apply Kd.R_drew)); exact (Kd.R_mono (Kd.R_far (p := ⟨gb403, 3, none⟩) (Kd.R_far (p := ⟨gb403, 2, none⟩) (Kd.R_far (p := ⟨gb403, 1, none⟩) (Kd.R_far (p := ⟨gb403, 0, none⟩) (Kd.R_types HO_3.out BK403.out (by decide)) (fun _ hk => hk.2) (.int .i64 ((rd_T44 l0 x8_1).f0.f0))) (fun _ hk => hk.2) (.int .i64 ((rd_T44 l0 x8_1).f0.f1))) (fun _ hk => hk.2) (.int .i64 ((rd_T44 l0 x8_1).f1))) (fun _ hk => hk.2) (.int .i64 ((rd_T44 l0 x8_1).f2))) (fun _ h_ => h_.1))) hb); have n1_ := Aside0.mk (blk_below (g := gb403) (o := .cells #[.int .i64 ((rd_T44 l0 x8_1).f0.f0), .int .i64 ((rd_T44 l0 x8_1).f0.f1), .int .i64 ((rd_T44 l0 x8_1).f1), .int .i64 ((rd_T44 l0 x8_1).f2)] 44 (0, 0)) (by (with_reducible repeat (first | refine blk_drewN ?_ _ | refine blk_drew ?_ | refine blk_alloc ?_ _)); refine blk_put (cs := #[.int .i64 ((rd_T44 l0 x8_1).f0.f0), .int .i64 ((rd_T44 l0 x8_1).f0.f1), .int .i64 ((rd_T44 l0 x8_1).f1), .int .i64 0]) ?_ 3 _ rfl; (with_reducible repeat (first | refine blk_drewN ?_ _ | refine blk_drew ?_ | refine blk_alloc ?_ _)); refine blk_put (cs := #[.int .i64 ((rd_T44 l0 x8_1).f0.f0), .int .i64 ((rd_T44 l0 x8_1).f0.f1), .int .i64 0, .int .i64 0]) ?_ 2 _ rfl; (with_reducible repeat (first | refine blk_drewN ?_ _ | refine blk_drew ?_ | refine blk_alloc ?_ _)); refine blk_put (cs := #[.int .i64 ((rd_T44 l0 x8_1).f0.f0), .int .i64 0, .int .i64 0, .int .i64 0]) ?_ 1 _ rfl; (with_reducible repeat (first | refine blk_drewN ?_ _ | refine blk_drew ?_ | refine blk_alloc ?_ _)); refine blk_put (cs := #[.int .i64 0, .int .i64 0, .int .i64 0, .int .i64 0]) ?_ 0 _ rfl; (with_reducible repeat (first | refine blk_drewN ?_ _ | refine blk_drew ?_ | refine blk_alloc ?_ _)); exact BK403.out) hb); have n2_ := Aside0.mk (below_step (by repeat (first | (with_reducible first | exact HB.out | apply below_alloc | apply pw_below_drewN | apply below_drew1 | refine below_set ?_ GE403.out) | exact HB.out)) hb); clear HO_3; clear BK403; clear HB; have HO_3 := n0_; have BK403 := n1_; have HB := n2_; clear n0_ n1_ n2_; (try clear hb); (try clear hb2); (try clear hk); (try clear hi)) | ((with_reducible refine gate_builtin (b := .append) (xs := #[.tmp 12, .tmp 15]) rfl ?_); at_builtin; refine Kd.R_append k39 (w0 := w) w.heap.size rfl (.tmp 12) (.tmp 15) 53 39 (.agg #[(.int .i64 0), (.int .i64 0), (.int .i64 0), (.int .i64 0)]) 32 rfl Tryd.underlying53 info39 rfl (by decide) (by omega) u3 x3_1 (⟨t404, t405, t406, t407⟩ : S39) [.int .i64 t404, .int .i64 t405, .int .i64 t406, .int .i64 t407] (fun _ => True) (fun _ => False) rfl rfl ?aP (fun _ hk => hk.elim) ?aF ?aO ?aB ?aS ?aL ?_; (case aP => exact k39_mkM _ _ _ (⟨t404, t405, t406, t407⟩ : S39)); (case aB => exact (by repeat (first | (with_reducible first | exact HB.out | apply below_alloc | apply pw_below_drewN | apply below_drew1 | refine below_set ?_ GE403.out) | exact HB.out))); (case aF => exact (fun _ _ => trivial)); (case aO => exact (by (with_reducible repeat (first | apply Kd.R_alloc | apply Kd.R_drewN | apply Kd.R_drew)); exact HO_3.out)); (case aS => exact (below_size (by repeat (first | (with_reducible first | exact HB.out | apply below_alloc | apply pw_below_drewN | apply below_drew1 | refine below_set ?_ GE403.out) | exact HB.out)))); (case aL => have := LMc6.out; omega); intro v409 w10 ho hb hg hat; rw [← Ny408.out] at ho; have n0_ := Aside0.mk (blk_grown (g := gb403) (o := .cells #[.int .i64 ((rd_T44 l0 x8_1).f0.f0), .int .i64 ((rd_T44 l0 x8_1).f0.f1), .int .i64 ((rd_T44 l0 x8_1).f1), .int .i64 ((rd_T44 l0 x8_1).f2)] 44 (0, 0)) (by (with_reducible repeat (first | refine blk_drewN ?_ _ | refine blk_drew ?_ | refine blk_alloc ?_ _)); exact BK403.out) hg (Kd.R_ne HO_3.out BK403.out (by decide))); have n1_ := Aside0.mk (hb); have n2_ := Aside0.mk (ho); clear BK403; clear HB; clear HO_3; have BK403 := n0_; have HB := n1_; have HO410 := n2_; clear n0_ n1_ n2_; clear ho hb hg hat))
              go_roundg k1
              case measure => have := HK1.out; omega
              case rel => exact ⟨(y408), (wrap64 (x8_1 + 1)), (by first | rfl | (simp; done) | (simp [*]; done)), H', ⟨by have := HK1.out; omega⟩, ⟨by (with_reducible repeat (first | apply Kd.R_alloc | apply Kd.R_drewN | apply Kd.R_drew)); exact HO410.out⟩, ⟨by repeat (first | (with_reducible first | exact HB.out | apply below_alloc | apply pw_below_drewN | apply below_drew1 | refine below_set ?_ GE403.out) | exact HB.out)⟩⟩
            · rw [if_neg c6] at H
              exact absurd H (by simp)
          · rw [if_neg c4] at H
            exact absurd H (by simp)
        · rw [if_neg c3] at H
          exact absurd H (by simp)
      · rw [if_neg c2] at H
        have c2b0 : decide (x8_1 < (l0.length : Int)) = false := decide_eq_false c2
        clear c2
        obtain rfl := Option.some.inj H
        go_wp2
        go_ret
        exact ⟨_, by first | rfl | (simp [errW_none, errW_some] <;> rfl) | (simp [*, errW_none, errW_some] <;> rfl), by (with_reducible repeat (first | apply Kd.R_alloc | apply Kd.R_drewN | apply Kd.R_drew)); exact HO_3.out, by repeat (first | (with_reducible first | exact HB.out | apply below_alloc | apply pw_below_drewN | apply below_drew1) | exact HB.out)⟩
end Go.Proofs.YtaedhehiifkcbaaDoor.PG
namespace Go.Proofs.YtaedhehiifkcbaaDoor.PG
open Go.RowKit Go.Proofs.YtaedhehiifkcbaaDoorW.PrintWords Go.Proofs.YtaedhehiifkcbaaDoorW.PrintLast Go.Proofs.YtaedhehiifkcbaaDoorW.PrintMore
attribute [local go_sem] max2_int min2_int max_two min_two max_three min_three max_four min_four   -- for this text's walks alone
set_option linter.unusedVariables false
set_option linter.unusedSimpArgs false
theorem eqA39 (d : Nat) (w : World) (x0 y0 : Int) (x1 y1 : Int) (x2 y2 : Int) (x3 y3 : Int) :
    (Op.equalIn (d + 2) 39 (.agg #[.int .i64 x0, .int .i64 x1, .int .i64 x2, .int .i64 x3]) (.agg #[.int .i64 y0, .int .i64 y1, .int .i64 y2, .int .i64 y3])).run Tryd.prog w = .ok (x0 == y0 && (x1 == y1 && (x2 == y2 && (x3 == y3)))) w := by
  refine eqA_of Tryd.underlying39 (by kernel_rfl) ?_
  refine eqf_cons (by rfl) (by go_simp; rfl) (by go_simp; rfl) (by go_simp) ?_
  refine eqf_cons (by rfl) (by go_simp; rfl) (by go_simp; rfl) (by go_simp) ?_
  refine eqf_cons (by rfl) (by go_simp; rfl) (by go_simp; rfl) (by go_simp) ?_
  exact eqf_last (by rfl) (by go_simp; rfl) (by go_simp; rfl) (by go_simp)
end Go.Proofs.YtaedhehiifkcbaaDoor.PG
namespace Go.Proofs.YtaedhehiifkcbaaDoor.PG
open Go.RowKit Go.Proofs.YtaedhehiifkcbaaDoorW.PrintWords Go.Proofs.YtaedhehiifkcbaaDoorW.PrintLast Go.Proofs.YtaedhehiifkcbaaDoorW.PrintMore
attribute [local go_sem] max2_int min2_int max_two min_two max_three min_three max_four min_four   -- for this text's walks alone
set_option linter.unusedVariables false
set_option linter.unusedSimpArgs false
attribute [local go_sem high] eqA39
def afterglowref08_Same.l0 : Nat → List (S39) → List (S39) → Int → Option (Bool)
  | 0, _, _, _ => none
  | k + 1, x0, x1, x5 => if x5 < (x0.length : Int) then (if 0 ≤ x5 then (if x5 < (x1.length : Int) then (if (!(((rd_T39 x0 x5).f0) == ((rd_T39 x1 x5).f0)) || (!(((rd_T39 x0 x5).f1) == ((rd_T39 x1 x5).f1)) || (!(((rd_T39 x0 x5).f2) == ((rd_T39 x1 x5).f2)) || (!(((rd_T39 x0 x5).f3) == ((rd_T39 x1 x5).f3)))))) = true then (some false) else (afterglowref08_Same.l0 k x0 x1 (wrap64 (x5 + 1)))) else (none)) else (none)) else (some true)
def afterglowref08_Same.f (k : Nat) (l0 : List (S39)) (l1 : List (S39)) : Option (Bool) := if (l0.length : Int) = (l1.length : Int) then (afterglowref08_Same.l0 k l0 l1 0) else (some false)
set_option maxHeartbeats 8000000 in
set_option maxRecDepth 100000 in
theorem afterglowref08_Same.calls (k : Nat) (A0 : Option Addr) (c0 : Nat) (l0 : List (S39)) (A1 : Option Addr) (c1 : Nat) (l1 : List (S39)) (r : Bool) (w : World) (hr0 : Kd.C k39 w A0 l0.length l0) (hc0 : l0.length ≤ c0) (hr1 : Kd.C k39 w A1 l1.length l1) (hc1 : l1.length ≤ c1) (h : afterglowref08_Same.f k l0 l1 = some r) :
    Calls Tryd.prog 39 #[.slice A0 l0.length c0, .slice A1 l1.length c1] w fun e w' => e = .returned (.bool r) ∧ Drawn0 w w' := by
  have hu39 := Tryd.underlying39
  have HR0 := Aside0.mk hr0
  have HC0 := Aside0.mk hc0
  clear hr0 hc0
  have HR1 := Aside0.mk hr1
  have HC1 := Aside0.mk hc1
  clear hr1 hc1
  have H : (if (l0.length : Int) = (l1.length : Int) then (afterglowref08_Same.l0 k l0 l1 0) else (some false)) = some r := h
  clear h
  by_cases c3 : (l0.length : Int) = (l1.length : Int)
  · rw [if_pos c3] at H
    have c3b0 : ((l0.length : Int) == (l1.length : Int)) = true := beq_iff_eq.mpr c3
    have c3b1 : ((l0.length : Int) != (l1.length : Int)) = false := bne_eq_false_iff_eq.mpr c3
    have c3b2 : (l0.length == l1.length) = true := by first | simpa using c3 | (simp at c3 ⊢; omega)
    clear c3
    have H' := Aside0.mk H
    clear H
    go_enter Tryd.func39, Tryd.ntmps39
    go_wp2
    repeat (go_quiet (fail); try go_wp2)
    go_loopg [5] k (fun kq v5 w' => ∃ (x5_1 : Int), v5 = .int .i64 x5_1 ∧ Aside0 (afterglowref08_Same.l0 kq l0 l1 x5_1 = some r) ∧ Aside0 (kq ≤ k) ∧ Drawn0 w w')
    case atStart => exact ⟨(0), (by first | rfl | (simp; done) | (simp [*]; done)), H', ⟨Nat.le_refl _⟩, by repeat (first | exact Drawn0.refl _ | apply Drawn0.step)⟩
    case round =>
      clear H'
      try clear c1
      try clear p2
      try clear c3
      try clear c3b0
      try clear c3b1
      try clear c3b2
      obtain ⟨x5_1, rfl, HA, HK1, ⟨m1, rfl⟩⟩ := hrel
      cases gk with
      | zero => exact absurd HA.out (by simp [afterglowref08_Same.l0])
      | succ k1 =>
        have H := HA.out
        clear HA
        simp only [afterglowref08_Same.l0] at H
        by_cases c4 : x5_1 < (l0.length : Int)
        · rw [if_pos c4] at H
          have c4b0 : decide (x5_1 < (l0.length : Int)) = true := decide_eq_true c4
          clear c4
          by_cases c5 : 0 ≤ x5_1
          · rw [if_pos c5] at H
            have c5b0 : decide (0 ≤ x5_1) = true := decide_eq_true c5
            clear c5
            by_cases c6 : x5_1 < (l1.length : Int)
            · rw [if_pos c6] at H
              have c6b0 : decide (x5_1 < (l1.length : Int)) = true := decide_eq_true c6
              clear c6
              by_cases c7 : (!(((rd_T39 l0 x5_1).f0) == ((rd_T39 l1 x5_1).f0)) || (!(((rd_T39 l0 x5_1).f1) == ((rd_T39 l1 x5_1).f1)) || (!(((rd_T39 l0 x5_1).f2) == ((rd_T39 l1 x5_1).f2)) || (!(((rd_T39 l0 x5_1).f3) == ((rd_T39 l1 x5_1).f3)))))) = true
              · rw [if_pos c7] at H
                have c7b0 : (!(((rd_T39 l0 x5_1).f0) == ((rd_T39 l1 x5_1).f0)) || (!(((rd_T39 l0 x5_1).f1) == ((rd_T39 l1 x5_1).f1)) || (!(((rd_T39 l0 x5_1).f2) == ((rd_T39 l1 x5_1).f2)) || (!(((rd_T39 l0 x5_1).f3) == ((rd_T39 l1 x5_1).f3)))))) = true := c7
                clear c7
                obtain rfl := Option.some.inj H
                have p411 : 0 ≤ (x5_1 : Int) := of_decide_eq_true (by first | (with_reducible assumption) | assumption)
                have q411 : x5_1 < (l0.length : Int) := of_decide_eq_true (by first | (with_reducible assumption) | assumption)
                obtain ⟨ad411, e411, hx411_0, hx411_1, hx411_2, hx411_3⟩ := at_T39 HR0.out x5_1 p411 q411
                cases e411
                replace p411 := eq_true p411
                replace q411 := eq_true q411
                have p412 : 0 ≤ (x5_1 : Int) := of_decide_eq_true (by first | (with_reducible assumption) | assumption)
                have q412 : x5_1 < (l1.length : Int) := of_decide_eq_true (by first | (with_reducible assumption) | assumption)
                obtain ⟨ad412, e412, hx412_0, hx412_1, hx412_2, hx412_3⟩ := at_T39 HR1.out x5_1 p412 q412
                cases e412
                replace p412 := eq_true p412
                replace q412 := eq_true q412
                go_wp2
                repeat (go_quiet (fail); try go_wp2)
                go_ret
                exact ⟨by first | rfl | (simp; done) | (simp [*]; done), by repeat (first | exact Drawn0.refl _ | apply Drawn0.step)⟩
              · rw [if_neg c7] at H
                have c7b0 : (!(((rd_T39 l0 x5_1).f0) == ((rd_T39 l1 x5_1).f0)) || (!(((rd_T39 l0 x5_1).f1) == ((rd_T39 l1 x5_1).f1)) || (!(((rd_T39 l0 x5_1).f2) == ((rd_T39 l1 x5_1).f2)) || (!(((rd_T39 l0 x5_1).f3) == ((rd_T39 l1 x5_1).f3)))))) = false := by simpa using c7
                clear c7
                have H' := Aside0.mk H
                clear H
                have p411 : 0 ≤ (x5_1 : Int) := of_decide_eq_true (by first | (with_reducible assumption) | assumption)
                have q411 : x5_1 < (l0.length : Int) := of_decide_eq_true (by first | (with_reducible assumption) | assumption)
                obtain ⟨ad411, e411, hx411_0, hx411_1, hx411_2, hx411_3⟩ := at_T39 HR0.out x5_1 p411 q411
                cases e411
                replace p411 := eq_true p411
                replace q411 := eq_true q411
                have p412 : 0 ≤ (x5_1 : Int) := of_decide_eq_true (by first | (with_reducible assumption) | assumption)
                have q412 : x5_1 < (l1.length : Int) := of_decide_eq_true (by first | (with_reducible assumption) | assumption)
                obtain ⟨ad412, e412, hx412_0, hx412_1, hx412_2, hx412_3⟩ := at_T39 HR1.out x5_1 p412 q412
                cases e412
                replace p412 := eq_true p412
                replace q412 := eq_true q412
                go_wp2
                repeat (go_quiet (fail); try go_wp2)
                go_roundg k1
                case measure => have := HK1.out; omega
                case rel => exact ⟨(wrap64 (x5_1 + 1)), (by first | rfl | (simp; done) | (simp [*]; done)), H', ⟨by have := HK1.out; omega⟩, by repeat (first | exact Drawn0.refl _ | apply Drawn0.step)⟩
            · rw [if_neg c6] at H
              exact absurd H (by simp)
          · rw [if_neg c5] at H
            exact absurd H (by simp)
        · rw [if_neg c4] at H
          have c4b0 : decide (x5_1 < (l0.length : Int)) = false := decide_eq_false c4
          clear c4
          obtain rfl := Option.some.inj H
          go_wp2
          repeat (go_quiet (fail); try go_wp2)
          go_ret
          exact ⟨by first | rfl | (simp; done) | (simp [*]; done), by repeat (first | exact Drawn0.refl _ | apply Drawn0.step)⟩
  · rw [if_neg c3] at H
    have c3b0 : ((l0.length : Int) == (l1.length : Int)) = false := beq_eq_false_iff_ne.mpr c3
    have c3b1 : ((l0.length : Int) != (l1.length : Int)) = true := bne_iff_ne.mpr c3
    have c3b2 : (l0.length == l1.length) = false := by first | simpa using c3 | (simp at c3 ⊢; omega)
    obtain rfl := Option.some.inj H
    go_enter Tryd.func39, Tryd.ntmps39
    go_wp2
    repeat (go_quiet (fail); try go_wp2)
    go_ret
    exact ⟨by first | rfl | (simp; done) | (simp [*]; done), by repeat (first | exact Drawn0.refl _ | apply Drawn0.step)⟩
end Go.Proofs.YtaedhehiifkcbaaDoor.PG
namespace Go.Proofs.YtaedhehiifkcbaaDoor.PG
open Go.RowKit Go.Proofs.YtaedhehiifkcbaaDoorW.PrintWords Go.Proofs.YtaedhehiifkcbaaDoorW.PrintLast Go.Proofs.YtaedhehiifkcbaaDoorW.PrintMore
attribute [local go_sem] max2_int min2_int max_two min_two max_three min_three max_four min_four   -- for this text's walks alone
set_option linter.unusedVariables false
set_option linter.unusedSimpArgs false
def afterglowlaw14_PageAll.l0 : Nat → List (S39) → List (List (S44)) → List (S44) → Int → List (List (S44)) → Int → Int → Option (Bool)
  | 0, _, _, _, _, _, _, _ => none
  | k + 1, x0, x5, x9, x10, x39, x40, x41 => if x41 < x40 then (if 0 ≤ x41 then (if x41 < (x39.length : Int) then (if ((rd_L6 x39 x41).length : Int) > x10 then (none) else (if (wrap64 (x41 + 1)) < (x5.length : Int) then (if ((rd_L6 x39 x41).length : Int) < x10 then (none) else (if ((rd_L6 x39 x41).length : Int) = 0 then (if (x0.length : Int) > 0 then (none) else (if x9.length + (rd_L6 x39 x41).length < 4398046511104 then (afterglowlaw14_PageAll.l0 k x0 x5 (x9 ++ (rd_L6 x39 x41)) x10 x39 x40 (wrap64 (x41 + 1))) else (none))) else (if x9.length + (rd_L6 x39 x41).length < 4398046511104 then (afterglowlaw14_PageAll.l0 k x0 x5 (x9 ++ (rd_L6 x39 x41)) x10 x39 x40 (wrap64 (x41 + 1))) else (none)))) else (if ((rd_L6 x39 x41).length : Int) = 0 then (if (x0.length : Int) > 0 then (none) else (if x9.length + (rd_L6 x39 x41).length < 4398046511104 then (afterglowlaw14_PageAll.l0 k x0 x5 (x9 ++ (rd_L6 x39 x41)) x10 x39 x40 (wrap64 (x41 + 1))) else (none))) else (if x9.length + (rd_L6 x39 x41).length < 4398046511104 then (afterglowlaw14_PageAll.l0 k x0 x5 (x9 ++ (rd_L6 x39 x41)) x10 x39 x40 (wrap64 (x41 + 1))) else (none))))) else (none)) else (none)) else ((afterglowlaw14_alive.f k).bind fun t466 => (if t466 = true then ((afterglowlaw08_Olds.f k x9).bind fun t467 => ((afterglowref08_Same.f k t467 x0).bind fun t470 => (if t470 = true then (some (decide ((x5.length : Int) > 0))) else (none)))) else (none)))
def afterglowlaw14_PageAll.f (k : Nat) (l0 : List (S39)) (a1 : Int) : Option (Bool) := if (l0.length : Int) > 150 then ((afterglowlaw14_alive.f k).bind fun t440 => (some t440)) else ((afterglowlaw08_News.f k l0).bind fun t441 => ((page_All.f t441 a1).bind fun t444 => ((afterglowref14_Of.f k l0 (⟨#[]⟩ : ByteArray) a1).bind fun bt447 => (if bt447.2.2 = 0 then (afterglowlaw14_PageAll.l0 k l0 t444 ([] : List (S44)) (mn (mx a1 1) 100) t444 (t444.length : Int) 0) else ((afterglowlaw14_alive.f k).bind fun t452 => (if t452 = true then (some ((t444.length : Int) == 0)) else (none)))))))
set_option maxHeartbeats 8000000 in
set_option maxRecDepth 100000 in
theorem afterglowlaw14_PageAll.calls (k : Nat) (A0 : Option Addr) (c0 : Nat) (l0 : List (S39)) (a1 : Int) (r : Bool) (w : World) (hG : Aside0 (Good w)) (hr0 : Kd.C k39 w A0 l0.length l0) (hc0 : l0.length ≤ c0) (h : afterglowlaw14_PageAll.f k l0 a1 = some r) :
    Calls Tryd.prog 11 #[.slice A0 l0.length c0, .int .i64 a1] w fun e w' => e = .returned (.bool r) ∧ Below w.heap.size w w' := by
  have HR0 := Aside0.mk hr0
  have HC0 := Aside0.mk hc0
  clear hr0 hc0
  have HB := Aside0.mk (Below.refl w.heap.size w)
  have H : (if (l0.length : Int) > 150 then ((afterglowlaw14_alive.f k).bind fun t440 => (some t440)) else ((afterglowlaw08_News.f k l0).bind fun t441 => ((page_All.f t441 a1).bind fun t444 => ((afterglowref14_Of.f k l0 (⟨#[]⟩ : ByteArray) a1).bind fun bt447 => (if bt447.2.2 = 0 then (afterglowlaw14_PageAll.l0 k l0 t444 ([] : List (S44)) (mn (mx a1 1) 100) t444 (t444.length : Int) 0) else ((afterglowlaw14_alive.f k).bind fun t452 => (if t452 = true then (some ((t444.length : Int) == 0)) else (none)))))))) = some r := h
  clear h
  by_cases c3 : (l0.length : Int) > 150
  · rw [if_pos c3] at H
    have c3b0 : decide (150 < (l0.length : Int)) = true := decide_eq_true c3
    have c3b1 : decide (150 < l0.length) = true := decide_eq_true (by omega)
    clear c3
    replace H := Option.bind_eq_some_iff.mp H
    obtain ⟨t440, A40, H⟩ := H
    replace H : (some t440) = some r := H
    have A4 := Aside0.mk A40
    clear A40
    obtain rfl := Option.some.inj H
    go_enter Tryd.func11, Tryd.ntmps11
    go_wp2_with (first | ((with_reducible refine gate_callee (f := 28) rfl ?_); refine goesL_ (some 16) rfl rfl Tryd.func28 (by kernel_rfl) rfl #[] rfl (by (try simp only [List.map_toArray, List.map_cons, List.map_nil]); first | done | rfl | (simp only [List.length_drop, List.length_take]; rfl)) ?_; (with_reducible refine (afterglowlaw14_alive.calls k  t440 _ ?side1 A4.out).mono ?_); (case side1 => exact ⟨Good.below hG.out (by repeat (first | (with_reducible first | exact HB.out | apply below_alloc | apply pw_below_drewN | apply below_drew1) | exact HB.out))⟩); rintro e w5 ⟨rfl, hb⟩; refine ⟨_, rfl, ?_⟩; have n0_ := Aside0.mk (below_step (by repeat (first | (with_reducible first | exact HB.out | apply below_alloc | apply pw_below_drewN | apply below_drew1) | exact HB.out)) hb); clear HB; have HB := n0_; clear n0_; (try clear hb); (try clear hb2); (try clear hk); (try clear hi)))
    go_ret
    exact ⟨by first | rfl | (simp [errW_none, errW_some] <;> rfl) | (simp [*, errW_none, errW_some] <;> rfl), by repeat (first | (with_reducible first | exact HB.out | apply below_alloc | apply pw_below_drewN | apply below_drew1) | exact HB.out)⟩
  · rw [if_neg c3] at H
    have c3b0 : decide (150 < (l0.length : Int)) = false := decide_eq_false c3
    have c3b1 : decide (150 < l0.length) = false := decide_eq_false (by omega)
    clear c3
    replace H := Option.bind_eq_some_iff.mp H
    obtain ⟨t441, A60, H⟩ := H
    replace H : ((page_All.f t441 a1).bind fun t444 => ((afterglowref14_Of.f k l0 (⟨#[]⟩ : ByteArray) a1).bind fun bt447 => (if bt447.2.2 = 0 then (afterglowlaw14_PageAll.l0 k l0 t444 ([] : List (S44)) (mn (mx a1 1) 100) t444 (t444.length : Int) 0) else ((afterglowlaw14_alive.f k).bind fun t452 => (if t452 = true then (some ((t444.length : Int) == 0)) else (none)))))) = some r := H
    have A6 := Aside0.mk A60
    clear A60
    replace H := Option.bind_eq_some_iff.mp H
    obtain ⟨t444, A70, H⟩ := H
    replace H : ((afterglowref14_Of.f k l0 (⟨#[]⟩ : ByteArray) a1).bind fun bt447 => (if bt447.2.2 = 0 then (afterglowlaw14_PageAll.l0 k l0 t444 ([] : List (S44)) (mn (mx a1 1) 100) t444 (t444.length : Int) 0) else ((afterglowlaw14_alive.f k).bind fun t452 => (if t452 = true then (some ((t444.length : Int) == 0)) else (none))))) = some r := H
    have A7 := Aside0.mk A70
    clear A70
    replace H := Option.bind_eq_some_iff.mp H
    obtain ⟨⟨t447, t448, t449⟩, A80, H⟩ := H
    replace H : (if t449 = 0 then (afterglowlaw14_PageAll.l0 k l0 t444 ([] : List (S44)) (mn (mx a1 1) 100) t444 (t444.length : Int) 0) else ((afterglowlaw14_alive.f k).bind fun t452 => (if t452 = true then (some ((t444.length : Int) == 0)) else (none)))) = some r := H
    have A8 := Aside0.mk A80
    clear A80
    by_cases c9 : t449 = 0
    · rw [if_pos c9] at H
      have c9b0 : (t449 == 0) = true := beq_iff_eq.mpr c9
      have c9b1 : (t449 != 0) = false := bne_eq_false_iff_eq.mpr c9
      clear c9
      obtain ⟨ji10, hji10⟩ : ∃ j_ : Int, (mx a1 1) = j_ := ⟨_, rfl⟩
      replace H : (afterglowlaw14_PageAll.l0 k l0 t444 ([] : List (S44)) (mn (ji10) 100) t444 (t444.length : Int) 0) = some r := by first | (rw [hji10] at H; exact H) | (simp only [hji10] at H ⊢; exact H)
      (try rw [hji10] at A6)
      (try rw [hji10] at A7)
      (try rw [hji10] at A8)
      (try (have hji10l : 1 ≤ ji10 := by (rw [← hji10]; unfold mx; (repeat' split) <;> omega)))
      (try (have hji10m : 0 ≤ ji10 := by omega))
      have hji10_ : (if a1 < 1 then 1 else a1) = ji10 := hji10
      obtain ⟨ji11, hji11⟩ : ∃ j_ : Int, (mn (ji10) 100) = j_ := ⟨_, rfl⟩
      replace H : (afterglowlaw14_PageAll.l0 k l0 t444 ([] : List (S44)) ji11 t444 (t444.length : Int) 0) = some r := by first | (rw [hji11] at H; exact H) | (simp only [hji11] at H ⊢; exact H)
      (try rw [hji11] at A6)
      (try rw [hji11] at A7)
      (try rw [hji11] at A8)
      have hji11_ : (if 100 < (ji10) then 100 else (ji10)) = ji11 := hji11
      have H' := Aside0.mk H
      clear H
      go_enter Tryd.func11, Tryd.ntmps11
      go_wp2_with (first | ((with_reducible refine gate_callee (f := 35) rfl ?_); refine goesL_ (some 18) rfl rfl Tryd.func35 (by kernel_rfl) rfl #[.slice A0 l0.length c0] rfl (by (try simp only [List.map_toArray, List.map_cons, List.map_nil]); first | done | rfl | (simp only [List.length_drop, List.length_take]; rfl)) ?_; (with_reducible refine (afterglowlaw08_News.calls k _ _ l0 t441 _ ?side1 ?side2 A6.out).mono ?_); (case side1 => repeat (first | exact HR0.out | (with_reducible refine Kd.C_alloc ?_ _) | (with_reducible refine Kd.C_drewN ?_ _) | (with_reducible refine Kd.C_drew ?_))); (case side2 => exact HC0.out); rintro e w12 ⟨v442, rfl, ho0, hb⟩; refine ⟨_, rfl, ?_⟩; have n0_ := Aside0.mk (Kd.R_lower ho0 (below_size (by repeat (first | (with_reducible first | exact HB.out | apply below_alloc | apply pw_below_drewN | apply below_drew1) | exact HB.out)))); have n1_ := Aside0.mk (below_step (by repeat (first | (with_reducible first | exact HB.out | apply below_alloc | apply pw_below_drewN | apply below_drew1) | exact HB.out)) hb); clear HB; have HO443 := n0_; have HB := n1_; clear n0_ n1_; (try clear hb); (try clear hb2); (try clear hk); (try clear hi); (try clear ho0); obtain ⟨Ao13, co13, eo13⟩ := Kd.R_slice HO443.out; subst eo13) | ((with_reducible refine gate_callee (f := 40) rfl ?_); refine goesL_ (some 20) rfl rfl Tryd.func40 (by kernel_rfl) rfl #[.slice Ao13 t441.length co13, .int .i64 a1] rfl (by (try simp only [List.map_toArray, List.map_cons, List.map_nil]); first | done | rfl | (simp only [List.length_drop, List.length_take]; rfl)) ?_; (with_reducible refine (page_All.calls _ _ t441 a1 t444 _ ?side3 ?side1 ?side2 A7.out).mono ?_); (case side1 => repeat (first | exact (Kd.R_reads' HO443.out).2.2 | (with_reducible refine Kd.C_alloc ?_ _) | (with_reducible refine Kd.C_drewN ?_ _) | (with_reducible refine Kd.C_drew ?_))); (case side2 => exact (Kd.R_reads' HO443.out).2.1); (case side3 => exact ⟨Good.below hG.out (by repeat (first | (with_reducible first | exact HB.out | apply below_alloc | apply pw_below_drewN | apply below_drew1) | exact HB.out))⟩); rintro e w14 ⟨v445, rfl, ho0, hb⟩; refine ⟨_, rfl, ?_⟩; have n0_ := Aside0.mk (Kd.R_below (by (with_reducible repeat (first | apply Kd.R_alloc | apply Kd.R_drewN | apply Kd.R_drew)); exact HO443.out) hb); have n1_ := Aside0.mk (Kd.S_lower (Kd.S_new' ho0 (Kd.R_lt (by (with_reducible repeat (first | apply Kd.R_alloc | apply Kd.R_drewN | apply Kd.R_drew)); exact HO443.out))) (below_size (by repeat (first | (with_reducible first | exact HB.out | apply below_alloc | apply pw_below_drewN | apply below_drew1) | exact HB.out)))); have n2_ := Aside0.mk (below_step (by repeat (first | (with_reducible first | exact HB.out | apply below_alloc | apply pw_below_drewN | apply below_drew1) | exact HB.out)) hb); clear HO443; clear HB; have HO443 := n0_; have HO446 := n1_; have HB := n2_; clear n0_ n1_ n2_; (try clear hb); (try clear hb2); (try clear hk); (try clear hi); (try clear ho0)) | ((with_reducible refine gate_callee (f := 37) rfl ?_); refine goesL_ (some 24) rfl rfl Tryd.func37 (by kernel_rfl) rfl #[.slice A0 l0.length c0, .string (⟨#[]⟩ : ByteArray), .int .i64 a1] rfl (by (try simp only [List.map_toArray, List.map_cons, List.map_nil]); first | done | rfl | (simp only [List.length_drop, List.length_take]; rfl)) ?_; (with_reducible refine (afterglowref14_Of.calls k _ _ l0 (⟨#[]⟩ : ByteArray) a1 t447 t448 t449 _ ?side1 ?side2 A8.out).mono ?_); (case side1 => repeat (first | exact (Kd.C_below HR0.out HB.out) | (with_reducible refine Kd.C_alloc ?_ _) | (with_reducible refine Kd.C_drewN ?_ _) | (with_reducible refine Kd.C_drew ?_))); (case side2 => exact HC0.out); rintro e w15 ⟨v450, rfl, ho0, hb⟩; refine ⟨_, rfl, ?_⟩; have n0_ := Aside0.mk (Kd.R_below (by (with_reducible repeat (first | apply Kd.R_alloc | apply Kd.R_drewN | apply Kd.R_drew)); exact HO443.out) hb); have n1_ := Aside0.mk (Kd.S_below (by (with_reducible repeat (first | apply Kd.S_alloc | apply Kd.S_drewN | apply Kd.S_drew)); exact HO446.out) hb); have n2_ := Aside0.mk (Kd.R_lower ho0 (below_size (by repeat (first | (with_reducible first | exact HB.out | apply below_alloc | apply pw_below_drewN | apply below_drew1) | exact HB.out)))); have n3_ := Aside0.mk (below_step (by repeat (first | (with_reducible first | exact HB.out | apply below_alloc | apply pw_below_drewN | apply below_drew1) | exact HB.out)) hb); clear HO443; clear HO446; clear HB; have HO443 := n0_; have HO446 := n1_; have HO451 := n2_; have HB := n3_; clear n0_ n1_ n2_ n3_; (try clear hb); (try clear hb2); (try clear hk); (try clear hi); (try clear ho0); obtain ⟨Ao16, co16, eo16⟩ := Kd.S_slice HO446.out; subst eo16))
      go_loopg [9, 41] k (fun kq v9 v41 w' => ∃ (x9_1 : List (S44)) (x41_1 : Int), v41 = .int .i64 x41_1 ∧ Aside0 (afterglowlaw14_PageAll.l0 kq l0 t444 x9_1 ji11 t444 (t444.length : Int) x41_1 = some r) ∧ Aside0 (kq ≤ k) ∧ Aside0 (Kd.S (Kd.slice 44 k44) 54 w' w.heap.size (fun k_ => some k_ ≠ (v9 : Value).ownBlock) (.slice Ao16 t444.length co16) t444) ∧ Aside0 (Kd.R k44 44 w' w.heap.size (fun _ => True) v9 x9_1) ∧ Aside0 (Kd.S (Kd.slice 44 k44) 54 w' w.heap.size (fun k_ => some k_ ≠ (v9 : Value).ownBlock) (.slice Ao16 t444.length co16) t444) ∧ Aside0 (Below w.heap.size w w'))
      case atStart => exact ⟨(([] : List (S44))), (0), (by first | rfl | (simp; done) | (simp [*]; done)), H', ⟨Nat.le_refl _⟩, ⟨by (with_reducible repeat (first | apply Kd.S_alloc | apply Kd.S_drewN | apply Kd.S_drew)); exact Kd.S_mono HO446.out (fun _ hk => (by simp [Value.ownBlock]))⟩, ⟨by first | exact Kd.R_nil _ _ _ _ _ | exact Kd.N_nil _ _ _ _ _ | exact Kd.V_nil _ _ _ _ _ | exact Kd.Q_nil _ _ _ _ _ | exact Kd.S_nil _ _ _ _ _⟩, ⟨by (with_reducible repeat (first | apply Kd.S_alloc | apply Kd.S_drewN | apply Kd.S_drew)); exact Kd.S_mono HO446.out (fun _ hk => (by simp [Value.ownBlock]))⟩, ⟨by repeat (first | (with_reducible first | exact HB.out | apply below_alloc | apply pw_below_drewN | apply below_drew1) | exact HB.out)⟩⟩
      case round =>
        clear H'
        try clear c1
        try clear c2
        try clear p2
        try clear c3
        try clear c3b0
        try clear c3b1
        try clear c4
        try clear c9
        try clear c9b0
        try clear c9b1
        try clear c11
        obtain ⟨x9_1, x41_1, rfl, HA, HK1, HO_5, HO_9, HO_39, HB⟩ := hrel
        cases gk with
        | zero => exact absurd HA.out (by simp [afterglowlaw14_PageAll.l0])
        | succ k1 =>
          have H := HA.out
          clear HA
          simp only [afterglowlaw14_PageAll.l0] at H
          by_cases c17 : x41_1 < (t444.length : Int)
          · rw [if_pos c17] at H
            have c17b0 : decide (x41_1 < (t444.length : Int)) = true := decide_eq_true c17
            clear c17
            by_cases c18 : 0 ≤ x41_1
            · rw [if_pos c18] at H
              have c18b0 : decide (0 ≤ x41_1) = true := decide_eq_true c18
              clear c18
              by_cases c19 : x41_1 < (t444.length : Int)
              · rw [if_pos c19] at H
                have c19b0 : decide (x41_1 < (t444.length : Int)) = true := decide_eq_true c19
                clear c19
                by_cases c20 : ((rd_L6 t444 x41_1).length : Int) > ji11
                · rw [if_pos c20] at H
                  exact absurd H (by simp)
                · rw [if_neg c20] at H
                  have c20b0 : decide (ji11 < ((rd_L6 t444 x41_1).length : Int)) = false := decide_eq_false c20
                  clear c20
                  by_cases c21 : (wrap64 (x41_1 + 1)) < (t444.length : Int)
                  · rw [if_pos c21] at H
                    have c21b0 : decide ((wrap64 (x41_1 + 1)) < (t444.length : Int)) = true := decide_eq_true c21
                    clear c21
                    by_cases c22 : ((rd_L6 t444 x41_1).length : Int) < ji11
                    · rw [if_pos c22] at H
                      exact absurd H (by simp)
                    · rw [if_neg c22] at H
                      have c22b0 : decide (((rd_L6 t444 x41_1).length : Int) < ji11) = false := decide_eq_false c22
                      clear c22
                      by_cases c23 : ((rd_L6 t444 x41_1).length : Int) = 0
                      · rw [if_pos c23] at H
                        have c23b0 : (((rd_L6 t444 x41_1).length : Int) == 0) = true := beq_iff_eq.mpr c23
                        have c23b1 : (((rd_L6 t444 x41_1).length : Int) != 0) = false := bne_eq_false_iff_eq.mpr c23
                        clear c23
                        by_cases c24 : (l0.length : Int) > 0
                        · rw [if_pos c24] at H
                          exact absurd H (by simp)
                        · rw [if_neg c24] at H
                          have c24b0 : decide (0 < (l0.length : Int)) = false := decide_eq_false c24
                          have c24b1 : decide (0 < l0.length) = false := decide_eq_false (by omega)
                          clear c24
                          by_cases c25 : x9_1.length + (rd_L6 t444 x41_1).length < 4398046511104
                          · rw [if_pos c25] at H
                            have LMc25 := Aside0.mk c25
                            clear c25
                            obtain ⟨y454, hy454⟩ : ∃ y_ : List (S44), y_ = (x9_1 ++ (rd_L6 t444 x41_1)) := ⟨_, rfl⟩
                            replace H : (afterglowlaw14_PageAll.l0 k1 l0 t444 y454 ji11 t444 (t444.length : Int) (wrap64 (x41_1 + 1))) = some r := by first | (rw [hy454]; with_reducible exact H) | (have H2_ := (Option.bind_some _ _).symm.trans H; rw [hy454]; with_reducible exact H2_) | (have H2_ := (Option.bind_some _ _).symm.trans H; with_reducible exact H2_) | with_reducible exact H | (rw [hy454]; exact H) | exact H
                            have Ny454 := Aside0.mk hy454
                            clear hy454
                            have H' := Aside0.mk H
                            clear H
                            have p453 : 0 ≤ (x41_1 : Int) := of_decide_eq_true (by first | (with_reducible assumption) | assumption)
                            have q453 : x41_1 < (t444.length : Int) := of_decide_eq_true (by first | (with_reducible assumption) | assumption)
                            obtain ⟨ad453, A453_0, c453_0, e453, hx453_0, hl453_0, hi453_0⟩ := at_L6 (Kd.S_reads' HO_39.out).2.2 x41_1 p453 q453
                            cases e453
                            obtain ⟨ce453, hce453, hMe453, hcc453⟩ := Kd.S_get HO_39.out [] x41_1 p453 (by first | exact q453 | exact of_decide_eq_true (by first | (with_reducible assumption) | assumption) | (have e_ := (Kd.S_reads' HO_39.out).1; omega))
                            obtain ⟨ve453_0, rfl, ge453_0⟩ := hMe453
                            have hv453_0 := hcc453 0 _ rfl
                            rw [Nat.add_zero, show ((Kd.slice 44 k44)).sz = 1 from rfl, Nat.mul_one] at hv453_0
                            replace hv453_0 := Option.some.inj (hv453_0.symm.trans hx453_0)
                            rw [hv453_0] at ge453_0
                            have HL453_0 := Aside0.mk (show Kd.R k44 44 _ _ _ _ (rd_L6 t444 x41_1) from ge453_0)
                            clear hv453_0 ge453_0
                            clear hcc453 hce453
                            have HR453_0 := Aside0.mk hi453_0
                            have HC453_0 := Aside0.mk hl453_0
                            clear hi453_0 hl453_0
                            replace p453 := eq_true p453
                            replace q453 := eq_true q453
                            go_wp2_with (first | ((with_reducible refine gate_builtin (b := .append) (xs := #[.tmp 73, .tmp 74]) rfl ?_); (try (refine gate_guard (by rfl) ?_; dsimp only)); at_builtin; refine Kd.R_append_rows k44 (w0 := w) w.heap.size rfl (.tmp 73) (.tmp 74) 54 44 (.agg #[(.int .i64 0), (.int .i64 0), (.int .i64 0), (.int .i64 0)]) 32 rfl Tryd.underlying54 info44 rfl (by decide) (by omega) u9 x9_1 (rd_L6 t444 x41_1) _ _ _ (fun _ => True) (fun _ => False) rfl rfl ?aO ?aR (fun _ _ h => h) (fun _ h => h.elim) ?aF ?aB ?aS ?aL ?_; (case aR => repeat (first | exact (by repeat (first | (with_reducible exact HR453_0.out) | (with_reducible refine Kd.C_alloc ?_ _) | (with_reducible refine Kd.C_drewN ?_ _) | (with_reducible refine Kd.C_drew ?_) | exact HR453_0.out)) | (with_reducible refine Kd.C_alloc ?_ _) | (with_reducible refine Kd.C_drewN ?_ _) | (with_reducible refine Kd.C_drew ?_))); (case aB => exact (by repeat (first | (with_reducible first | exact HB.out | apply below_alloc | apply pw_below_drewN | apply below_drew1) | exact HB.out))); (case aF => exact (fun _ _ => trivial)); (case aO => exact (by (with_reducible repeat (first | apply Kd.R_alloc | apply Kd.R_drewN | apply Kd.R_drew)); exact HO_9.out)); (case aS => exact (below_size (by repeat (first | (with_reducible first | exact HB.out | apply below_alloc | apply pw_below_drewN | apply below_drew1) | exact HB.out)))); (case aL => have := LMc25.out; omega); intro v455 w26 ho hb hg hat; rw [← Ny454.out] at ho; have n0_ := Aside0.mk (Kd.S_after (ok := (fun _ => True)) (by (with_reducible repeat (first | apply Kd.S_alloc | apply Kd.S_drewN | apply Kd.S_drew)); exact Kd.S_mono HO_5.out (fun _ hk => ⟨trivial, hk⟩)) hg hat); have n1_ := Aside0.mk (Kd.S_after (ok := (fun _ => True)) (by (with_reducible repeat (first | apply Kd.S_alloc | apply Kd.S_drewN | apply Kd.S_drew)); exact Kd.S_mono HO_39.out (fun _ hk => ⟨trivial, hk⟩)) hg hat); have n2_ := Aside0.mk (Kd.R_after (ok := (fun k_ => some k_ ≠ (.slice (some ad453) t444.length co16 : Value).ownBlock)) (by (with_reducible repeat (first | apply Kd.R_alloc | apply Kd.R_drewN | apply Kd.R_drew)); exact Kd.R_mono HL453_0.out (fun _ hk => ⟨hk.2, hk.1⟩)) hg hat); have n3_ := Aside0.mk (hb); have n4_ := Aside0.mk (ho); clear HO_5; clear HO_39; clear HL453_0; clear HB; clear HO_9; have HO_5 := n0_; have HO_39 := n1_; have HL453_0 := n2_; have HB := n3_; have HO456 := n4_; clear n0_ n1_ n2_ n3_ n4_; clear ho hb hg hat))
                            go_roundg k1
                            case measure => have := HK1.out; omega
                            case rel => exact ⟨(y454), (wrap64 (x41_1 + 1)), (by first | rfl | (simp; done) | (simp [*]; done)), H', ⟨by have := HK1.out; omega⟩, ⟨by (with_reducible repeat (first | apply Kd.S_alloc | apply Kd.S_drewN | apply Kd.S_drew)); exact Kd.S_mono HO_5.out (fun _ hk => hk.2)⟩, ⟨by (with_reducible repeat (first | apply Kd.R_alloc | apply Kd.R_drewN | apply Kd.R_drew)); exact HO456.out⟩, ⟨by (with_reducible repeat (first | apply Kd.S_alloc | apply Kd.S_drewN | apply Kd.S_drew)); exact Kd.S_mono HO_39.out (fun _ hk => hk.2)⟩, ⟨by repeat (first | (with_reducible first | exact HB.out | apply below_alloc | apply pw_below_drewN | apply below_drew1) | exact HB.out)⟩⟩
                          · rw [if_neg c25] at H
                            exact absurd H (by simp)
                      · rw [if_neg c23] at H
                        have c23b0 : (((rd_L6 t444 x41_1).length : Int) == 0) = false := beq_eq_false_iff_ne.mpr c23
                        have c23b1 : (((rd_L6 t444 x41_1).length : Int) != 0) = true := bne_iff_ne.mpr c23
                        have c23b2 : ¬ ((rd_L6 t444 x41_1) = []) := fun h_ => c23 (by rw [h_]; rfl)
                        by_cases c27 : x9_1.length + (rd_L6 t444 x41_1).length < 4398046511104
                        · rw [if_pos c27] at H
                          have LMc27 := Aside0.mk c27
                          clear c27
                          obtain ⟨y457, hy457⟩ : ∃ y_ : List (S44), y_ = (x9_1 ++ (rd_L6 t444 x41_1)) := ⟨_, rfl⟩
                          replace H : (afterglowlaw14_PageAll.l0 k1 l0 t444 y457 ji11 t444 (t444.length : Int) (wrap64 (x41_1 + 1))) = some r := by first | (rw [hy457]; with_reducible exact H) | (have H2_ := (Option.bind_some _ _).symm.trans H; rw [hy457]; with_reducible exact H2_) | (have H2_ := (Option.bind_some _ _).symm.trans H; with_reducible exact H2_) | with_reducible exact H | (rw [hy457]; exact H) | exact H
                          have Ny457 := Aside0.mk hy457
                          clear hy457
                          have H' := Aside0.mk H
                          clear H
                          have p453 : 0 ≤ (x41_1 : Int) := of_decide_eq_true (by first | (with_reducible assumption) | assumption)
                          have q453 : x41_1 < (t444.length : Int) := of_decide_eq_true (by first | (with_reducible assumption) | assumption)
                          obtain ⟨ad453, A453_0, c453_0, e453, hx453_0, hl453_0, hi453_0⟩ := at_L6 (Kd.S_reads' HO_39.out).2.2 x41_1 p453 q453
                          cases e453
                          obtain ⟨ce453, hce453, hMe453, hcc453⟩ := Kd.S_get HO_39.out [] x41_1 p453 (by first | exact q453 | exact of_decide_eq_true (by first | (with_reducible assumption) | assumption) | (have e_ := (Kd.S_reads' HO_39.out).1; omega))
                          obtain ⟨ve453_0, rfl, ge453_0⟩ := hMe453
                          have hv453_0 := hcc453 0 _ rfl
                          rw [Nat.add_zero, show ((Kd.slice 44 k44)).sz = 1 from rfl, Nat.mul_one] at hv453_0
                          replace hv453_0 := Option.some.inj (hv453_0.symm.trans hx453_0)
                          rw [hv453_0] at ge453_0
                          have HL453_0 := Aside0.mk (show Kd.R k44 44 _ _ _ _ (rd_L6 t444 x41_1) from ge453_0)
                          clear hv453_0 ge453_0
                          clear hcc453 hce453
                          have HR453_0 := Aside0.mk hi453_0
                          have HC453_0 := Aside0.mk hl453_0
                          clear hi453_0 hl453_0
                          replace p453 := eq_true p453
                          replace q453 := eq_true q453
                          go_wp2_with (first | ((with_reducible refine gate_builtin (b := .append) (xs := #[.tmp 73, .tmp 74]) rfl ?_); (try (refine gate_guard (by rfl) ?_; dsimp only)); at_builtin; refine Kd.R_append_rows k44 (w0 := w) w.heap.size rfl (.tmp 73) (.tmp 74) 54 44 (.agg #[(.int .i64 0), (.int .i64 0), (.int .i64 0), (.int .i64 0)]) 32 rfl Tryd.underlying54 info44 rfl (by decide) (by omega) u9 x9_1 (rd_L6 t444 x41_1) _ _ _ (fun _ => True) (fun _ => False) rfl rfl ?aO ?aR (fun _ _ h => h) (fun _ h => h.elim) ?aF ?aB ?aS ?aL ?_; (case aR => repeat (first | exact (by repeat (first | (with_reducible exact HR453_0.out) | (with_reducible refine Kd.C_alloc ?_ _) | (with_reducible refine Kd.C_drewN ?_ _) | (with_reducible refine Kd.C_drew ?_) | exact HR453_0.out)) | (with_reducible refine Kd.C_alloc ?_ _) | (with_reducible refine Kd.C_drewN ?_ _) | (with_reducible refine Kd.C_drew ?_))); (case aB => exact (by repeat (first | (with_reducible first | exact HB.out | apply below_alloc | apply pw_below_drewN | apply below_drew1) | exact HB.out))); (case aF => exact (fun _ _ => trivial)); (case aO => exact (by (with_reducible repeat (first | apply Kd.R_alloc | apply Kd.R_drewN | apply Kd.R_drew)); exact HO_9.out)); (case aS => exact (below_size (by repeat (first | (with_reducible first | exact HB.out | apply below_alloc | apply pw_below_drewN | apply below_drew1) | exact HB.out)))); (case aL => have := LMc27.out; omega); intro v458 w28 ho hb hg hat; rw [← Ny457.out] at ho; have n0_ := Aside0.mk (Kd.S_after (ok := (fun _ => True)) (by (with_reducible repeat (first | apply Kd.S_alloc | apply Kd.S_drewN | apply Kd.S_drew)); exact Kd.S_mono HO_5.out (fun _ hk => ⟨trivial, hk⟩)) hg hat); have n1_ := Aside0.mk (Kd.S_after (ok := (fun _ => True)) (by (with_reducible repeat (first | apply Kd.S_alloc | apply Kd.S_drewN | apply Kd.S_drew)); exact Kd.S_mono HO_39.out (fun _ hk => ⟨trivial, hk⟩)) hg hat); have n2_ := Aside0.mk (Kd.R_after (ok := (fun k_ => some k_ ≠ (.slice (some ad453) t444.length co16 : Value).ownBlock)) (by (with_reducible repeat (first | apply Kd.R_alloc | apply Kd.R_drewN | apply Kd.R_drew)); exact Kd.R_mono HL453_0.out (fun _ hk => ⟨hk.2, hk.1⟩)) hg hat); have n3_ := Aside0.mk (hb); have n4_ := Aside0.mk (ho); clear HO_5; clear HO_39; clear HL453_0; clear HB; clear HO_9; have HO_5 := n0_; have HO_39 := n1_; have HL453_0 := n2_; have HB := n3_; have HO459 := n4_; clear n0_ n1_ n2_ n3_ n4_; clear ho hb hg hat))
                          go_roundg k1
                          case measure => have := HK1.out; omega
                          case rel => exact ⟨(y457), (wrap64 (x41_1 + 1)), (by first | rfl | (simp; done) | (simp [*]; done)), H', ⟨by have := HK1.out; omega⟩, ⟨by (with_reducible repeat (first | apply Kd.S_alloc | apply Kd.S_drewN | apply Kd.S_drew)); exact Kd.S_mono HO_5.out (fun _ hk => hk.2)⟩, ⟨by (with_reducible repeat (first | apply Kd.R_alloc | apply Kd.R_drewN | apply Kd.R_drew)); exact HO459.out⟩, ⟨by (with_reducible repeat (first | apply Kd.S_alloc | apply Kd.S_drewN | apply Kd.S_drew)); exact Kd.S_mono HO_39.out (fun _ hk => hk.2)⟩, ⟨by repeat (first | (with_reducible first | exact HB.out | apply below_alloc | apply pw_below_drewN | apply below_drew1) | exact HB.out)⟩⟩
                        · rw [if_neg c27] at H
                          exact absurd H (by simp)
                  · rw [if_neg c21] at H
                    have c21b0 : decide ((wrap64 (x41_1 + 1)) < (t444.length : Int)) = false := decide_eq_false c21
                    clear c21
                    by_cases c29 : ((rd_L6 t444 x41_1).length : Int) = 0
                    · rw [if_pos c29] at H
                      have c29b0 : (((rd_L6 t444 x41_1).length : Int) == 0) = true := beq_iff_eq.mpr c29
                      have c29b1 : (((rd_L6 t444 x41_1).length : Int) != 0) = false := bne_eq_false_iff_eq.mpr c29
                      clear c29
                      by_cases c30 : (l0.length : Int) > 0
                      · rw [if_pos c30] at H
                        exact absurd H (by simp)
                      · rw [if_neg c30] at H
                        have c30b0 : decide (0 < (l0.length : Int)) = false := decide_eq_false c30
                        have c30b1 : decide (0 < l0.length) = false := decide_eq_false (by omega)
                        clear c30
                        by_cases c31 : x9_1.length + (rd_L6 t444 x41_1).length < 4398046511104
                        · rw [if_pos c31] at H
                          have LMc31 := Aside0.mk c31
                          clear c31
                          obtain ⟨y460, hy460⟩ : ∃ y_ : List (S44), y_ = (x9_1 ++ (rd_L6 t444 x41_1)) := ⟨_, rfl⟩
                          replace H : (afterglowlaw14_PageAll.l0 k1 l0 t444 y460 ji11 t444 (t444.length : Int) (wrap64 (x41_1 + 1))) = some r := by first | (rw [hy460]; with_reducible exact H) | (have H2_ := (Option.bind_some _ _).symm.trans H; rw [hy460]; with_reducible exact H2_) | (have H2_ := (Option.bind_some _ _).symm.trans H; with_reducible exact H2_) | with_reducible exact H | (rw [hy460]; exact H) | exact H
                          have Ny460 := Aside0.mk hy460
                          clear hy460
                          have H' := Aside0.mk H
                          clear H
                          have p453 : 0 ≤ (x41_1 : Int) := of_decide_eq_true (by first | (with_reducible assumption) | assumption)
                          have q453 : x41_1 < (t444.length : Int) := of_decide_eq_true (by first | (with_reducible assumption) | assumption)
                          obtain ⟨ad453, A453_0, c453_0, e453, hx453_0, hl453_0, hi453_0⟩ := at_L6 (Kd.S_reads' HO_39.out).2.2 x41_1 p453 q453
                          cases e453
                          obtain ⟨ce453, hce453, hMe453, hcc453⟩ := Kd.S_get HO_39.out [] x41_1 p453 (by first | exact q453 | exact of_decide_eq_true (by first | (with_reducible assumption) | assumption) | (have e_ := (Kd.S_reads' HO_39.out).1; omega))
                          obtain ⟨ve453_0, rfl, ge453_0⟩ := hMe453
                          have hv453_0 := hcc453 0 _ rfl
                          rw [Nat.add_zero, show ((Kd.slice 44 k44)).sz = 1 from rfl, Nat.mul_one] at hv453_0
                          replace hv453_0 := Option.some.inj (hv453_0.symm.trans hx453_0)
                          rw [hv453_0] at ge453_0
                          have HL453_0 := Aside0.mk (show Kd.R k44 44 _ _ _ _ (rd_L6 t444 x41_1) from ge453_0)
                          clear hv453_0 ge453_0
                          clear hcc453 hce453
                          have HR453_0 := Aside0.mk hi453_0
                          have HC453_0 := Aside0.mk hl453_0
                          clear hi453_0 hl453_0
                          replace p453 := eq_true p453
                          replace q453 := eq_true q453
                          go_wp2_with (first | ((with_reducible refine gate_builtin (b := .append) (xs := #[.tmp 73, .tmp 74]) rfl ?_); (try (refine gate_guard (by rfl) ?_; dsimp only)); at_builtin; refine Kd.R_append_rows k44 (w0 := w) w.heap.size rfl (.tmp 73) (.tmp 74) 54 44 (.agg #[(.int .i64 0), (.int .i64 0), (.int .i64 0), (.int .i64 0)]) 32 rfl Tryd.underlying54 info44 rfl (by decide) (by omega) u9 x9_1 (rd_L6 t444 x41_1) _ _ _ (fun _ => True) (fun _ => False) rfl rfl ?aO ?aR (fun _ _ h => h) (fun _ h => h.elim) ?aF ?aB ?aS ?aL ?_; (case aR => repeat (first | exact (by repeat (first | (with_reducible exact HR453_0.out) | (with_reducible refine Kd.C_alloc ?_ _) | (with_reducible refine Kd.C_drewN ?_ _) | (with_reducible refine Kd.C_drew ?_) | exact HR453_0.out)) | (with_reducible refine Kd.C_alloc ?_ _) | (with_reducible refine Kd.C_drewN ?_ _) | (with_reducible refine Kd.C_drew ?_))); (case aB => exact (by repeat (first | (with_reducible first | exact HB.out | apply below_alloc | apply pw_below_drewN | apply below_drew1) | exact HB.out))); (case aF => exact (fun _ _ => trivial)); (case aO => exact (by (with_reducible repeat (first | apply Kd.R_alloc | apply Kd.R_drewN | apply Kd.R_drew)); exact HO_9.out)); (case aS => exact (below_size (by repeat (first | (with_reducible first | exact HB.out | apply below_alloc | apply pw_below_drewN | apply below_drew1) | exact HB.out)))); (case aL => have := LMc31.out; omega); intro v461 w32 ho hb hg hat; rw [← Ny460.out] at ho; have n0_ := Aside0.mk (Kd.S_after (ok := (fun _ => True)) (by (with_reducible repeat (first | apply Kd.S_alloc | apply Kd.S_drewN | apply Kd.S_drew)); exact Kd.S_mono HO_5.out (fun _ hk => ⟨trivial, hk⟩)) hg hat); have n1_ := Aside0.mk (Kd.S_after (ok := (fun _ => True)) (by (with_reducible repeat (first | apply Kd.S_alloc | apply Kd.S_drewN | apply Kd.S_drew)); exact Kd.S_mono HO_39.out (fun _ hk => ⟨trivial, hk⟩)) hg hat); have n2_ := Aside0.mk (Kd.R_after (ok := (fun k_ => some k_ ≠ (.slice (some ad453) t444.length co16 : Value).ownBlock)) (by (with_reducible repeat (first | apply Kd.R_alloc | apply Kd.R_drewN | apply Kd.R_drew)); exact Kd.R_mono HL453_0.out (fun _ hk => ⟨hk.2, hk.1⟩)) hg hat); have n3_ := Aside0.mk (hb); have n4_ := Aside0.mk (ho); clear HO_5; clear HO_39; clear HL453_0; clear HB; clear HO_9; have HO_5 := n0_; have HO_39 := n1_; have HL453_0 := n2_; have HB := n3_; have HO462 := n4_; clear n0_ n1_ n2_ n3_ n4_; clear ho hb hg hat))
                          go_roundg k1
                          case measure => have := HK1.out; omega
                          case rel => exact ⟨(y460), (wrap64 (x41_1 + 1)), (by first | rfl | (simp; done) | (simp [*]; done)), H', ⟨by have := HK1.out; omega⟩, ⟨by (with_reducible repeat (first | apply Kd.S_alloc | apply Kd.S_drewN | apply Kd.S_drew)); exact Kd.S_mono HO_5.out (fun _ hk => hk.2)⟩, ⟨by (with_reducible repeat (first | apply Kd.R_alloc | apply Kd.R_drewN | apply Kd.R_drew)); exact HO462.out⟩, ⟨by (with_reducible repeat (first | apply Kd.S_alloc | apply Kd.S_drewN | apply Kd.S_drew)); exact Kd.S_mono HO_39.out (fun _ hk => hk.2)⟩, ⟨by repeat (first | (with_reducible first | exact HB.out | apply below_alloc | apply pw_below_drewN | apply below_drew1) | exact HB.out)⟩⟩
                        · rw [if_neg c31] at H
                          exact absurd H (by simp)
                    · rw [if_neg c29] at H
                      have c29b0 : (((rd_L6 t444 x41_1).length : Int) == 0) = false := beq_eq_false_iff_ne.mpr c29
                      have c29b1 : (((rd_L6 t444 x41_1).length : Int) != 0) = true := bne_iff_ne.mpr c29
                      have c29b2 : ¬ ((rd_L6 t444 x41_1) = []) := fun h_ => c29 (by rw [h_]; rfl)
                      by_cases c33 : x9_1.length + (rd_L6 t444 x41_1).length < 4398046511104
                      · rw [if_pos c33] at H
                        have LMc33 := Aside0.mk c33
                        clear c33
                        obtain ⟨y463, hy463⟩ : ∃ y_ : List (S44), y_ = (x9_1 ++ (rd_L6 t444 x41_1)) := ⟨_, rfl⟩
                        replace H : (afterglowlaw14_PageAll.l0 k1 l0 t444 y463 ji11 t444 (t444.length : Int) (wrap64 (x41_1 + 1))) = some r := by first | (rw [hy463]; with_reducible exact H) | (have H2_ := (Option.bind_some _ _).symm.trans H; rw [hy463]; with_reducible exact H2_) | (have H2_ := (Option.bind_some _ _).symm.trans H; with_reducible exact H2_) | with_reducible exact H | (rw [hy463]; exact H) | exact H
                        have Ny463 := Aside0.mk hy463
                        clear hy463
                        have H' := Aside0.mk H
                        clear H
                        have p453 : 0 ≤ (x41_1 : Int) := of_decide_eq_true (by first | (with_reducible assumption) | assumption)
                        have q453 : x41_1 < (t444.length : Int) := of_decide_eq_true (by first | (with_reducible assumption) | assumption)
                        obtain ⟨ad453, A453_0, c453_0, e453, hx453_0, hl453_0, hi453_0⟩ := at_L6 (Kd.S_reads' HO_39.out).2.2 x41_1 p453 q453
                        cases e453
                        obtain ⟨ce453, hce453, hMe453, hcc453⟩ := Kd.S_get HO_39.out [] x41_1 p453 (by first | exact q453 | exact of_decide_eq_true (by first | (with_reducible assumption) | assumption) | (have e_ := (Kd.S_reads' HO_39.out).1; omega))
                        obtain ⟨ve453_0, rfl, ge453_0⟩ := hMe453
                        have hv453_0 := hcc453 0 _ rfl
                        rw [Nat.add_zero, show ((Kd.slice 44 k44)).sz = 1 from rfl, Nat.mul_one] at hv453_0
                        replace hv453_0 := Option.some.inj (hv453_0.symm.trans hx453_0)
                        rw [hv453_0] at ge453_0
                        have HL453_0 := Aside0.mk (show Kd.R k44 44 _ _ _ _ (rd_L6 t444 x41_1) from ge453_0)
                        clear hv453_0 ge453_0
                        clear hcc453 hce453
                        have HR453_0 := Aside0.mk hi453_0
                        have HC453_0 := Aside0.mk hl453_0
                        clear hi453_0 hl453_0
                        replace p453 := eq_true p453
                        replace q453 := eq_true q453
                        go_wp2_with (first | ((with_reducible refine gate_builtin (b := .append) (xs := #[.tmp 73, .tmp 74]) rfl ?_); (try (refine gate_guard (by rfl) ?_; dsimp only)); at_builtin; refine Kd.R_append_rows k44 (w0 := w) w.heap.size rfl (.tmp 73) (.tmp 74) 54 44 (.agg #[(.int .i64 0), (.int .i64 0), (.int .i64 0), (.int .i64 0)]) 32 rfl Tryd.underlying54 info44 rfl (by decide) (by omega) u9 x9_1 (rd_L6 t444 x41_1) _ _ _ (fun _ => True) (fun _ => False) rfl rfl ?aO ?aR (fun _ _ h => h) (fun _ h => h.elim) ?aF ?aB ?aS ?aL ?_; (case aR => repeat (first | exact (by repeat (first | (with_reducible exact HR453_0.out) | (with_reducible refine Kd.C_alloc ?_ _) | (with_reducible refine Kd.C_drewN ?_ _) | (with_reducible refine Kd.C_drew ?_) | exact HR453_0.out)) | (with_reducible refine Kd.C_alloc ?_ _) | (with_reducible refine Kd.C_drewN ?_ _) | (with_reducible refine Kd.C_drew ?_))); (case aB => exact (by repeat (first | (with_reducible first | exact HB.out | apply below_alloc | apply pw_below_drewN | apply below_drew1) | exact HB.out))); (case aF => exact (fun _ _ => trivial)); (case aO => exact (by (with_reducible repeat (first | apply Kd.R_alloc | apply Kd.R_drewN | apply Kd.R_drew)); exact HO_9.out)); (case aS => exact (below_size (by repeat (first | (with_reducible first | exact HB.out | apply below_alloc | apply pw_below_drewN | apply below_drew1) | exact HB.out)))); (case aL => have := LMc33.out; omega); intro v464 w34 ho hb hg hat; rw [← Ny463.out] at ho; have n0_ := Aside0.mk (Kd.S_after (ok := (fun _ => True)) (by (with_reducible repeat (first | apply Kd.S_alloc | apply Kd.S_drewN | apply Kd.S_drew)); exact Kd.S_mono HO_5.out (fun _ hk => ⟨trivial, hk⟩)) hg hat); have n1_ := Aside0.mk (Kd.S_after (ok := (fun _ => True)) (by (with_reducible repeat (first | apply Kd.S_alloc | apply Kd.S_drewN | apply Kd.S_drew)); exact Kd.S_mono HO_39.out (fun _ hk => ⟨trivial, hk⟩)) hg hat); have n2_ := Aside0.mk (Kd.R_after (ok := (fun k_ => some k_ ≠ (.slice (some ad453) t444.length co16 : Value).ownBlock)) (by (with_reducible repeat (first | apply Kd.R_alloc | apply Kd.R_drewN | apply Kd.R_drew)); exact Kd.R_mono HL453_0.out (fun _ hk => ⟨hk.2, hk.1⟩)) hg hat); have n3_ := Aside0.mk (hb); have n4_ := Aside0.mk (ho); clear HO_5; clear HO_39; clear HL453_0; clear HB; clear HO_9; have HO_5 := n0_; have HO_39 := n1_; have HL453_0 := n2_; have HB := n3_; have HO465 := n4_; clear n0_ n1_ n2_ n3_ n4_; clear ho hb hg hat))
                        go_roundg k1
                        case measure => have := HK1.out; omega
                        case rel => exact ⟨(y463), (wrap64 (x41_1 + 1)), (by first | rfl | (simp; done) | (simp [*]; done)), H', ⟨by have := HK1.out; omega⟩, ⟨by (with_reducible repeat (first | apply Kd.S_alloc | apply Kd.S_drewN | apply Kd.S_drew)); exact Kd.S_mono HO_5.out (fun _ hk => hk.2)⟩, ⟨by (with_reducible repeat (first | apply Kd.R_alloc | apply Kd.R_drewN | apply Kd.R_drew)); exact HO465.out⟩, ⟨by (with_reducible repeat (first | apply Kd.S_alloc | apply Kd.S_drewN | apply Kd.S_drew)); exact Kd.S_mono HO_39.out (fun _ hk => hk.2)⟩, ⟨by repeat (first | (with_reducible first | exact HB.out | apply below_alloc | apply pw_below_drewN | apply below_drew1) | exact HB.out)⟩⟩
                      · rw [if_neg c33] at H
                        exact absurd H (by simp)
              · rw [if_neg c19] at H
                exact absurd H (by simp)
            · rw [if_neg c18] at H
              exact absurd H (by simp)
          · rw [if_neg c17] at H
            have c17b0 : decide (x41_1 < (t444.length : Int)) = false := decide_eq_false c17
            clear c17
            replace H := Option.bind_eq_some_iff.mp H
            obtain ⟨t466, A350, H⟩ := H
            replace H : (if t466 = true then ((afterglowlaw08_Olds.f k1 x9_1).bind fun t467 => ((afterglowref08_Same.f k1 t467 l0).bind fun t470 => (if t470 = true then (some (decide ((t444.length : Int) > 0))) else (none)))) else (none)) = some r := H
            have A35 := Aside0.mk A350
            clear A350
            by_cases c36 : t466 = true
            · subst c36
              have H1 : ((afterglowlaw08_Olds.f k1 x9_1).bind fun t467 => ((afterglowref08_Same.f k1 t467 l0).bind fun t470 => (if t470 = true then (some (decide ((t444.length : Int) > 0))) else (none)))) = some r := by rw [if_pos rfl] at H; exact H
              clear H
              have H := H1
              clear H1
              replace H := Option.bind_eq_some_iff.mp H
              obtain ⟨t467, A370, H⟩ := H
              replace H : ((afterglowref08_Same.f k1 t467 l0).bind fun t470 => (if t470 = true then (some (decide ((t444.length : Int) > 0))) else (none))) = some r := H
              have A37 := Aside0.mk A370
              clear A370
              replace H := Option.bind_eq_some_iff.mp H
              obtain ⟨t470, A380, H⟩ := H
              replace H : (if t470 = true then (some (decide ((t444.length : Int) > 0))) else (none)) = some r := H
              have A38 := Aside0.mk A380
              clear A380
              by_cases c39 : t470 = true
              · subst c39
                have H1 : (some (decide ((t444.length : Int) > 0))) = some r := by rw [if_pos rfl] at H; exact H
                clear H
                have H := H1
                clear H1
                obtain rfl := Option.some.inj H
                go_wp2_with (first | ((with_reducible refine gate_callee (f := 28) rfl ?_); refine goesL_ (some 77) rfl rfl Tryd.func28 (by kernel_rfl) rfl #[] rfl (by (try simp only [List.map_toArray, List.map_cons, List.map_nil]); first | done | rfl | (simp only [List.length_drop, List.length_take]; rfl)) ?_; (with_reducible refine (afterglowlaw14_alive.calls k1  true _ ?side1 A35.out).mono ?_); (case side1 => exact ⟨Good.below hG.out (by repeat (first | (with_reducible first | exact HB.out | apply below_alloc | apply pw_below_drewN | apply below_drew1) | exact HB.out))⟩); rintro e w40 ⟨rfl, hb⟩; refine ⟨_, rfl, ?_⟩; have n0_ := Aside0.mk (Kd.S_below (by (with_reducible repeat (first | apply Kd.S_alloc | apply Kd.S_drewN | apply Kd.S_drew)); exact HO_5.out) hb); have n1_ := Aside0.mk (Kd.R_below (by (with_reducible repeat (first | apply Kd.R_alloc | apply Kd.R_drewN | apply Kd.R_drew)); exact HO_9.out) hb); have n2_ := Aside0.mk (Kd.S_below (by (with_reducible repeat (first | apply Kd.S_alloc | apply Kd.S_drewN | apply Kd.S_drew)); exact HO_39.out) hb); have n3_ := Aside0.mk (below_step (by repeat (first | (with_reducible first | exact HB.out | apply below_alloc | apply pw_below_drewN | apply below_drew1) | exact HB.out)) hb); clear HO_5; clear HO_9; clear HO_39; clear HB; have HO_5 := n0_; have HO_9 := n1_; have HO_39 := n2_; have HB := n3_; clear n0_ n1_ n2_ n3_; (try clear hb); (try clear hb2); (try clear hk); (try clear hi); obtain ⟨Ao41, co41, eo41⟩ := Kd.R_slice HO_9.out; subst eo41) | (go_at_call 38; (with_reducible refine (afterglowlaw08_Olds.calls k1 _ _ x9_1 t467 _ ?side1 ?side2 A37.out).mono ?_); (case side1 => repeat (first | exact (Kd.R_reads' HO_9.out).2.2 | (with_reducible refine Kd.C_alloc ?_ _) | (with_reducible refine Kd.C_drewN ?_ _) | (with_reducible refine Kd.C_drew ?_))); (case side2 => exact (Kd.R_reads' HO_9.out).2.1); rintro e w42 ⟨v468, rfl, ho0, hb⟩; have n0_ := Aside0.mk (Kd.S_below (by (with_reducible repeat (first | apply Kd.S_alloc | apply Kd.S_drewN | apply Kd.S_drew)); exact HO_5.out) hb); have n1_ := Aside0.mk (Kd.R_below (by (with_reducible repeat (first | apply Kd.R_alloc | apply Kd.R_drewN | apply Kd.R_drew)); exact HO_9.out) hb); have n2_ := Aside0.mk (Kd.S_below (by (with_reducible repeat (first | apply Kd.S_alloc | apply Kd.S_drewN | apply Kd.S_drew)); exact HO_39.out) hb); have n3_ := Aside0.mk (Kd.R_lower ho0 (below_size (by repeat (first | (with_reducible first | exact HB.out | apply below_alloc | apply pw_below_drewN | apply below_drew1) | exact HB.out)))); have n4_ := Aside0.mk (below_step (by repeat (first | (with_reducible first | exact HB.out | apply below_alloc | apply pw_below_drewN | apply below_drew1) | exact HB.out)) hb); clear HO_5; clear HO_9; clear HO_39; clear HB; have HO_5 := n0_; have HO_9 := n1_; have HO_39 := n2_; have HO469 := n3_; have HB := n4_; clear n0_ n1_ n2_ n3_ n4_; (try clear hb); (try clear hb2); (try clear hk); (try clear hi); (try clear ho0); obtain ⟨Ao43, co43, eo43⟩ := Kd.R_slice HO469.out; subst eo43) | (go_at_call 39; (with_reducible refine (afterglowref08_Same.calls k1 _ _ t467 _ _ l0 true _ ?side1 ?side2 ?side3 ?side4 A38.out).mono ?_); (case side1 => repeat (first | exact (Kd.R_reads' HO469.out).2.2 | (with_reducible refine Kd.C_alloc ?_ _) | (with_reducible refine Kd.C_drewN ?_ _) | (with_reducible refine Kd.C_drew ?_))); (case side2 => exact (Kd.R_reads' HO469.out).2.1); (case side3 => repeat (first | exact (Kd.C_below HR0.out HB.out) | (with_reducible refine Kd.C_alloc ?_ _) | (with_reducible refine Kd.C_drewN ?_ _) | (with_reducible refine Kd.C_drew ?_))); (case side4 => exact HC0.out); rintro e w' ⟨rfl, ⟨nd, rfl⟩⟩))
                go_ret
                exact ⟨by first | rfl | (simp [errW_none, errW_some] <;> rfl) | (simp only [← hji10, ← hji11]; first | rfl | (simp [errW_none, errW_some] <;> rfl)) | (simp [*, errW_none, errW_some] <;> rfl), by repeat (first | (with_reducible first | exact HB.out | apply below_alloc | apply pw_below_drewN | apply below_drew1) | exact HB.out)⟩
              · replace c39 := Bool.eq_false_iff.mpr c39
                subst c39
                have H1 : (none) = some r := by rw [if_neg (show ¬ (false = true) by decide)] at H; exact H
                clear H
                have H := H1
                clear H1
                exact absurd H (by simp)
            · replace c36 := Bool.eq_false_iff.mpr c36
              subst c36
              have H1 : (none) = some r := by rw [if_neg (show ¬ (false = true) by decide)] at H; exact H
              clear H
              have H := H1
              clear H1
              exact absurd H (by simp)
    · rw [if_neg c9] at H
      have c9b0 : (t449 == 0) = false := beq_eq_false_iff_ne.mpr c9
      have c9b1 : (t449 != 0) = true := bne_iff_ne.mpr c9
      replace H := Option.bind_eq_some_iff.mp H
      obtain ⟨t452, A440, H⟩ := H
      replace H : (if t452 = true then (some ((t444.length : Int) == 0)) else (none)) = some r := H
      have A44 := Aside0.mk A440
      clear A440
      by_cases c45 : t452 = true
      · subst c45
        have H1 : (some ((t444.length : Int) == 0)) = some r := by rw [if_pos rfl] at H; exact H
        clear H
        have H := H1
        clear H1
        obtain rfl := Option.some.inj H
        go_enter Tryd.func11, Tryd.ntmps11
        go_wp2_with (first | ((with_reducible refine gate_callee (f := 35) rfl ?_); refine goesL_ (some 18) rfl rfl Tryd.func35 (by kernel_rfl) rfl #[.slice A0 l0.length c0] rfl (by (try simp only [List.map_toArray, List.map_cons, List.map_nil]); first | done | rfl | (simp only [List.length_drop, List.length_take]; rfl)) ?_; (with_reducible refine (afterglowlaw08_News.calls k _ _ l0 t441 _ ?side1 ?side2 A6.out).mono ?_); (case side1 => repeat (first | exact HR0.out | (with_reducible refine Kd.C_alloc ?_ _) | (with_reducible refine Kd.C_drewN ?_ _) | (with_reducible refine Kd.C_drew ?_))); (case side2 => exact HC0.out); rintro e w46 ⟨v442, rfl, ho0, hb⟩; refine ⟨_, rfl, ?_⟩; have n0_ := Aside0.mk (Kd.R_lower ho0 (below_size (by repeat (first | (with_reducible first | exact HB.out | apply below_alloc | apply pw_below_drewN | apply below_drew1) | exact HB.out)))); have n1_ := Aside0.mk (below_step (by repeat (first | (with_reducible first | exact HB.out | apply below_alloc | apply pw_below_drewN | apply below_drew1) | exact HB.out)) hb); clear HB; have HO443 := n0_; have HB := n1_; clear n0_ n1_; (try clear hb); (try clear hb2); (try clear hk); (try clear hi); (try clear ho0); obtain ⟨Ao47, co47, eo47⟩ := Kd.R_slice HO443.out; subst eo47) | ((with_reducible refine gate_callee (f := 40) rfl ?_); refine goesL_ (some 20) rfl rfl Tryd.func40 (by kernel_rfl) rfl #[.slice Ao47 t441.length co47, .int .i64 a1] rfl (by (try simp only [List.map_toArray, List.map_cons, List.map_nil]); first | done | rfl | (simp only [List.length_drop, List.length_take]; rfl)) ?_; (with_reducible refine (page_All.calls _ _ t441 a1 t444 _ ?side3 ?side1 ?side2 A7.out).mono ?_); (case side1 => repeat (first | exact (Kd.R_reads' HO443.out).2.2 | (with_reducible refine Kd.C_alloc ?_ _) | (with_reducible refine Kd.C_drewN ?_ _) | (with_reducible refine Kd.C_drew ?_))); (case side2 => exact (Kd.R_reads' HO443.out).2.1); (case side3 => exact ⟨Good.below hG.out (by repeat (first | (with_reducible first | exact HB.out | apply below_alloc | apply pw_below_drewN | apply below_drew1) | exact HB.out))⟩); rintro e w48 ⟨v445, rfl, ho0, hb⟩; refine ⟨_, rfl, ?_⟩; have n0_ := Aside0.mk (Kd.R_below (by (with_reducible repeat (first | apply Kd.R_alloc | apply Kd.R_drewN | apply Kd.R_drew)); exact HO443.out) hb); have n1_ := Aside0.mk (Kd.S_lower (Kd.S_new' ho0 (Kd.R_lt (by (with_reducible repeat (first | apply Kd.R_alloc | apply Kd.R_drewN | apply Kd.R_drew)); exact HO443.out))) (below_size (by repeat (first | (with_reducible first | exact HB.out | apply below_alloc | apply pw_below_drewN | apply below_drew1) | exact HB.out)))); have n2_ := Aside0.mk (below_step (by repeat (first | (with_reducible first | exact HB.out | apply below_alloc | apply pw_below_drewN | apply below_drew1) | exact HB.out)) hb); clear HO443; clear HB; have HO443 := n0_; have HO446 := n1_; have HB := n2_; clear n0_ n1_ n2_; (try clear hb); (try clear hb2); (try clear hk); (try clear hi); (try clear ho0)) | ((with_reducible refine gate_callee (f := 37) rfl ?_); refine goesL_ (some 24) rfl rfl Tryd.func37 (by kernel_rfl) rfl #[.slice A0 l0.length c0, .string (⟨#[]⟩ : ByteArray), .int .i64 a1] rfl (by (try simp only [List.map_toArray, List.map_cons, List.map_nil]); first | done | rfl | (simp only [List.length_drop, List.length_take]; rfl)) ?_; (with_reducible refine (afterglowref14_Of.calls k _ _ l0 (⟨#[]⟩ : ByteArray) a1 t447 t448 t449 _ ?side1 ?side2 A8.out).mono ?_); (case side1 => repeat (first | exact (Kd.C_below HR0.out HB.out) | (with_reducible refine Kd.C_alloc ?_ _) | (with_reducible refine Kd.C_drewN ?_ _) | (with_reducible refine Kd.C_drew ?_))); (case side2 => exact HC0.out); rintro e w49 ⟨v450, rfl, ho0, hb⟩; refine ⟨_, rfl, ?_⟩; have n0_ := Aside0.mk (Kd.R_below (by (with_reducible repeat (first | apply Kd.R_alloc | apply Kd.R_drewN | apply Kd.R_drew)); exact HO443.out) hb); have n1_ := Aside0.mk (Kd.S_below (by (with_reducible repeat (first | apply Kd.S_alloc | apply Kd.S_drewN | apply Kd.S_drew)); exact HO446.out) hb); have n2_ := Aside0.mk (Kd.R_lower ho0 (below_size (by repeat (first | (with_reducible first | exact HB.out | apply below_alloc | apply pw_below_drewN | apply below_drew1) | exact HB.out)))); have n3_ := Aside0.mk (below_step (by repeat (first | (with_reducible first | exact HB.out | apply below_alloc | apply pw_below_drewN | apply below_drew1) | exact HB.out)) hb); clear HO443; clear HO446; clear HB; have HO443 := n0_; have HO446 := n1_; have HO451 := n2_; have HB := n3_; clear n0_ n1_ n2_ n3_; (try clear hb); (try clear hb2); (try clear hk); (try clear hi); (try clear ho0)) | ((with_reducible refine gate_callee (f := 28) rfl ?_); refine goesL_ (some 30) rfl rfl Tryd.func28 (by kernel_rfl) rfl #[] rfl (by (try simp only [List.map_toArray, List.map_cons, List.map_nil]); first | done | rfl | (simp only [List.length_drop, List.length_take]; rfl)) ?_; (with_reducible refine (afterglowlaw14_alive.calls k  true _ ?side1 A44.out).mono ?_); (case side1 => exact ⟨Good.below hG.out (by repeat (first | (with_reducible first | exact HB.out | apply below_alloc | apply pw_below_drewN | apply below_drew1) | exact HB.out))⟩); rintro e w50 ⟨rfl, hb⟩; refine ⟨_, rfl, ?_⟩; have n0_ := Aside0.mk (Kd.R_below (by (with_reducible repeat (first | apply Kd.R_alloc | apply Kd.R_drewN | apply Kd.R_drew)); exact HO443.out) hb); have n1_ := Aside0.mk (Kd.S_below (by (with_reducible repeat (first | apply Kd.S_alloc | apply Kd.S_drewN | apply Kd.S_drew)); exact HO446.out) hb); have n2_ := Aside0.mk (Kd.R_below (by (with_reducible repeat (first | apply Kd.R_alloc | apply Kd.R_drewN | apply Kd.R_drew)); exact HO451.out) hb); have n3_ := Aside0.mk (below_step (by repeat (first | (with_reducible first | exact HB.out | apply below_alloc | apply pw_below_drewN | apply below_drew1) | exact HB.out)) hb); clear HO443; clear HO446; clear HO451; clear HB; have HO443 := n0_; have HO446 := n1_; have HO451 := n2_; have HB := n3_; clear n0_ n1_ n2_ n3_; (try clear hb); (try clear hb2); (try clear hk); (try clear hi); obtain ⟨Ao51, co51, eo51⟩ := Kd.S_slice HO446.out; subst eo51))
        go_ret
        exact ⟨by first | rfl | (simp [errW_none, errW_some] <;> rfl) | (simp [*, errW_none, errW_some] <;> rfl), by repeat (first | (with_reducible first | exact HB.out | apply below_alloc | apply pw_below_drewN | apply below_drew1) | exact HB.out)⟩
      · replace c45 := Bool.eq_false_iff.mpr c45
        subst c45
        have H1 : (none) = some r := by rw [if_neg (show ¬ (false = true) by decide)] at H; exact H
        clear H
        have H := H1
        clear H1
        exact absurd H (by simp)
end Go.Proofs.YtaedhehiifkcbaaDoor.PG
namespace Go.Proofs.YtaedhehiifkcbaaDoor.Pl
def hexd (d : Nat) : UInt8 := if d < 10 then UInt8.ofNat (48 + d) else UInt8.ofNat (87 + d)
def optB : Option Nat → Int × Bool
  | some n => ((n : Int), true)
  | none => (0, false)
def optI : Option Nat → Int
  | some d => (d : Int)
  | none => -1
@[simp] theorem optI_some (d : Nat) : optI (some d) = (d : Int) := rfl
@[simp] theorem optI_none : optI none = -1 := rfl
@[simp] theorem optB_some (d : Nat) : optB (some d) = ((d : Int), true) := rfl
@[simp] theorem optB_none : optB none = (0, false) := rfl
def decval : Nat → List UInt8 → Option Nat
  | acc, [] => some acc
  | acc, c :: r => if 48 ≤ c.toNat ∧ c.toNat ≤ 57 then decval (10 * acc + (c.toNat - 48)) r else none
theorem decval_append : ∀ (a b : List UInt8) (acc : Nat), decval acc (a ++ b) = (decval acc a).bind fun x => decval x b
  | [], b, acc => rfl
  | c :: r, b, acc => by
    rw [List.cons_append, decval, decval]
    split
    · exact decval_append r b _
    · rfl
theorem ofNat_digit {d : Nat} (h : d < 10) : (UInt8.ofNat (48 + d)).toNat = 48 + d := by rw [UInt8.toNat_ofNat']; omega
theorem decval_one {d acc : Nat} (h : d < 10) : decval acc [UInt8.ofNat (48 + d)] = some (10 * acc + d) := by
  rw [decval, ofNat_digit h, if_pos (by omega), decval]
  congr 1; omega
theorem decDigits_ge {u : Nat} (h : ¬ u < 10) : Lib.decDigits u = Lib.decDigits (u / 10) ++ [UInt8.ofNat (48 + u % 10)] := by rw [Lib.decDigits, dif_neg h]
theorem decval_dec (u : Nat) : decval 0 (Lib.decDigits u) = some u := by
  induction u using Nat.strongRecOn with
  | _ u ih =>
    by_cases h : u < 10
    · rw [Lib.decDigits_one h, decval_one h]; simp
    · rw [decDigits_ge h, decval_append, ih (u / 10) (by omega), Option.bind_some, decval_one (by omega)]
      congr 1; omega
theorem dec_ne_nil (u : Nat) : Lib.decDigits u ≠ [] := by
  by_cases h : u < 10
  · rw [Lib.decDigits_one h]; simp
  · rw [decDigits_ge h]; simp
theorem dec_length (u : Nat) : ∀ w, 0 < w → u < 10 ^ w → (Lib.decDigits u).length ≤ w := by
  induction u using Nat.strongRecOn with
  | _ u ih =>
    intro w hw hu
    by_cases h : u < 10
    · rw [Lib.decDigits_one h]; simp; omega
    · obtain ⟨w, rfl⟩ : ∃ v, w = v + 1 := ⟨w - 1, by omega⟩
      have hw0 : 0 < w := by
        rcases Nat.eq_zero_or_pos w with rfl | h0
        · simp at hu; omega
        · exact h0
      rw [decDigits_ge h, List.length_append, List.length_singleton]
      have := ih (u / 10) (by omega) w hw0 (by rw [Nat.pow_succ] at hu; omega)
      omega
theorem dec_digit (u : Nat) : ∀ c ∈ Lib.decDigits u, 48 ≤ c.toNat ∧ c.toNat ≤ 57 := by
  induction u using Nat.strongRecOn with
  | _ u ih =>
    intro c hc
    by_cases h : u < 10
    · rw [Lib.decDigits_one h, List.mem_singleton] at hc
      subst hc; rw [ofNat_digit h]; omega
    · rw [decDigits_ge h, List.mem_append, List.mem_singleton] at hc
      rcases hc with hc | hc
      · exact ih (u / 10) (by omega) c hc
      · subst hc; rw [ofNat_digit (by omega)]; omega
theorem parse_eq : ∀ (l : List UInt8) (acc v : Nat), decval acc l = some v → v < 18446744073709551616 → Lib.parseUint10 acc l = .ok v
  | [], acc, v, h, _ => by
    obtain rfl := Option.some.inj h; rfl
  | c :: r, acc, v, h, hv => by
    rw [decval] at h
    split at h
    · rename_i hc
      have hle : ∀ (l : List UInt8) (a v : Nat), decval a l = some v → a ≤ v := by
        intro l
        induction l with
        | nil => intro a v h; have := Option.some.inj h; omega
        | cons x t ih =>
          intro a v h
          rw [decval] at h
          split at h
          · have := ih _ _ h; omega
          · cases h
      have h1 := hle _ _ _ h
      rw [Lib.parseUint10, if_pos hc, if_neg (by omega), if_neg (by omega), Nat.mul_comm acc 10]
      exact parse_eq r _ v h hv
    · cases h
theorem atoi_dec (u : Nat) (h : u < 9223372036854775808) : Lib.atoiAll (Lib.decDigits u) = .ok (u : Int) := by
  cases hl : Lib.decDigits u with
  | nil => exact absurd hl (dec_ne_nil u)
  | cons c r =>
    have hc := dec_digit u c (by rw [hl]; simp)
    have hp : Lib.parseMag (c :: r) = .ok u := by
      unfold Lib.parseMag
      rw [if_neg (by simp)]
      exact parse_eq _ _ _ (by rw [← hl]; exact decval_dec u) (by omega)
    unfold Lib.atoiAll
    simp only
    rw [if_neg (by omega), hp]
    simp only
    rw [if_neg (by omega), if_neg (by omega), if_neg (by omega)]
def decB (n : Int) : ByteArray := if n < 0 then ⟨#[]⟩ else if n > 1099511627776 then ⟨#[]⟩ else ⟨(Lib.decDigits n.toNat).toArray⟩
def undecB (s : ByteArray) : Int × Bool := match decval 0 s.data.toList with
  | some v => if v ≤ 1099511627776 ∧ Lib.decDigits v = s.data.toList then ((v : Int), true) else (0, false)
  | none => (0, false)
theorem undecB_some {s : ByteArray} {u : Nat} (hu : u ≤ 1099511627776) (h : s.data.toList = Lib.decDigits u) : undecB s = ((u : Int), true) := by
  unfold undecB
  rw [h, decval_dec]
  show (if _ then _ else _) = _
  rw [if_pos ⟨hu, rfl⟩]
theorem undecB_none {s : ByteArray} (h : ∀ u : Nat, u ≤ 1099511627776 → s.data.toList ≠ Lib.decDigits u) : undecB s = (0, false) := by
  unfold undecB
  cases decval 0 s.data.toList with
  | none => rfl
  | some v =>
    show (if _ then _ else _) = _
    rw [if_neg]
    rintro ⟨h1, h2⟩
    exact h v h1 h2.symm
end Go.Proofs.YtaedhehiifkcbaaDoor.Pl
namespace Go.Proofs.YtaedhehiifkcbaaDoor.PG
open Go.RowKit Go.Proofs.YtaedhehiifkcbaaDoorW.PrintWords Go.Proofs.YtaedhehiifkcbaaDoorW.PrintLast Go.Proofs.YtaedhehiifkcbaaDoorW.PrintMore Go.Proofs.YtaedhehiifkcbaaDoor.Pl
theorem w64 {x : Int} (h0 : -9223372036854775808 ≤ x) (h1 : x ≤ 9223372036854775807) : wrap64 x = x := by unfold wrap64; omega
theorem refdigit_val (d : Nat) (hd : d < 16) : afterglowref02_digit.f (d : Int) = some ⟨#[hexd d]⟩ := by
  unfold afterglowref02_digit.f hexd strOfNums
  by_cases h : d < 10
  · rw [if_pos (by omega), if_pos h, w64 (by omega) (by omega)]
    simp only [List.map_cons, List.map_nil]
    rw [show ((48 + (d : Int)) % 256).toNat = 48 + d by omega]
  · rw [if_neg (by omega), if_neg h, w64 (by omega) (by omega)]
    simp only [List.map_cons, List.map_nil]
    rw [show ((87 + (d : Int)) % 256).toNat = 87 + d by omega]
theorem one_append (c : UInt8) (l : List UInt8) : (⟨#[c]⟩ : ByteArray) ++ ⟨l.toArray⟩ = ⟨(c :: l).toArray⟩ := by
  apply ByteArray.ext
  simp [ByteArray.data_append]
end Go.Proofs.YtaedhehiifkcbaaDoor.PG
namespace Go.Proofs.YtaedhehiifkcbaaDoor.PG
open Go.RowKit Go.Proofs.YtaedhehiifkcbaaDoorW.PrintWords Go.Proofs.YtaedhehiifkcbaaDoorW.PrintLast Go.Proofs.YtaedhehiifkcbaaDoorW.PrintMore Go.Proofs.YtaedhehiifkcbaaDoor.Pl
theorem ba_ext {a b : ByteArray} (h : a.data.toList = b.data.toList) : a = b := by
  cases a; cases b
  simpa using h
theorem Dec_val (n : Int) : digits_Dec.f n = some (decB n) := by
  unfold digits_Dec.f decB strconv_Itoa.f
  by_cases h1 : n < 0
  · rw [if_pos h1, if_pos h1]
  rw [if_neg h1, if_neg h1]
  by_cases h2 : n > 1099511627776
  · rw [if_pos h2, if_pos h2]
  rw [if_neg h2, if_neg h2, if_pos (by omega), Option.bind_some]
  unfold Lib.itoa
  rw [if_neg h1]
theorem decB_nat {u : Nat} (h : u ≤ 1099511627776) : decB (u : Int) = ⟨(Lib.decDigits u).toArray⟩ := by
  unfold decB
  rw [if_neg (by omega), if_neg (by omega), Int.toNat_natCast]
theorem decB_none {n : Int} (h : n < 0 ∨ 1099511627776 < n) : decB n = ⟨#[]⟩ := by
  unfold decB
  by_cases h1 : n < 0
  · rw [if_pos h1]
  · rw [if_neg h1, if_pos (by omega)]
theorem Undec_val (s : ByteArray) (hs : s.size ≤ 140737488351232) : digits_Undec.f s = some (undecB s) := by
  unfold digits_Undec.f
  rw [if_pos hs]
  by_cases hx : ∃ u : Nat, u ≤ 1099511627776 ∧ s.data.toList = Lib.decDigits u
  · obtain ⟨u, hu, e⟩ := hx
    rw [undecB_some hu e, e, atoi_dec u (by omega)]
    show (digits_Dec.f (u : Int)).bind _ = _
    rw [Dec_val, Option.bind_some, decB_nat hu, if_pos]
    exact ba_ext (by simp [e])
  · rw [undecB_none (fun u hu e => hx ⟨u, hu, e⟩)]
    rcases hv : Lib.atoiAll s.data.toList with v | _ | _
    rotate_left
    · rfl
    · rfl
    · show (digits_Dec.f v).bind _ = _
      rw [Dec_val, Option.bind_some, if_neg]
      intro e
      by_cases hr : v < 0 ∨ 1099511627776 < v
      · rw [decB_none hr] at e
        rw [← e] at hv
        simp [Lib.atoiAll] at hv
      · obtain ⟨u, rfl⟩ := Int.eq_ofNat_of_zero_le (show 0 ≤ v by omega)
        rw [decB_nat (by omega)] at e
        exact hx ⟨u, by omega, by rw [← e]⟩
theorem hexd_dec {d : Nat} (h : d < 10) : hexd d = UInt8.ofNat (48 + d) := by unfold hexd; rw [if_pos h]
theorem refdec_loop : ∀ (d n : Nat) (k : Nat) (l : List UInt8), 0 < n → n < 10 ^ d → n < 9223372036854775808 → l.length + d ≤ 100 → d < k →
    afterglowref02_Dec.l0 k (n : Int) ⟨l.toArray⟩ = some ⟨(Lib.decDigits n ++ l).toArray⟩ := by
  intro d
  induction d with
  | zero => intro n k l h0 h1 _ _ _; simp at h1; omega
  | succ d ih =>
    intro n k l h0 h1 h2 hl hk
    obtain ⟨k, rfl⟩ : ∃ m, k = m + 1 := ⟨k - 1, by omega⟩
    simp only [afterglowref02_Dec.l0]
    rw [if_pos (by omega), show Int.tmod (n : Int) 10 = ((n % 10 : Nat) : Int) from by rw [Int.tmod_eq_emod_of_nonneg (by omega)]; omega, refdigit_val _ (by omega), Option.bind_some,
      if_pos (by simp [ByteArray.size]; omega), one_append,
      show wrap64 (Int.tdiv (n : Int) 10) = ((n / 10 : Nat) : Int) from by rw [Int.tdiv_eq_ediv_of_nonneg (by omega), w64 (by omega) (by omega)]; omega]
    by_cases h : n < 10
    · obtain ⟨k, rfl⟩ : ∃ m, k = m + 1 := ⟨k - 1, by omega⟩
      simp only [afterglowref02_Dec.l0]
      rw [if_neg (by omega), Lib.decDigits_one h, hexd_dec (by omega), show n % 10 = n by omega]
      rfl
    · rw [ih (n / 10) k _ (by omega) (by rw [Nat.pow_succ] at h1; omega) (by omega) (by simp; omega) (by omega), decDigits_ge h, hexd_dec (by omega), List.append_assoc]
      rfl
theorem refDec_val (n : Int) (k : Nat) (hk : 20 ≤ k) : afterglowref02_Dec.f k n = some (decB n) := by
  obtain ⟨k, rfl⟩ : ∃ m, k = m + 1 := ⟨k - 1, by omega⟩
  unfold afterglowref02_Dec.f
  by_cases h1 : n < 0
  · rw [if_pos h1, decB_none (.inl h1)]; rfl
  rw [if_neg h1]
  by_cases h2 : n > 1099511627776
  · rw [decide_eq_true h2, decB_none (.inr h2)]; rfl
  rw [decide_eq_false h2]
  simp only [afterglowref02_Dec.j0]
  rw [if_neg (by simp)]
  obtain ⟨u, rfl⟩ := Int.eq_ofNat_of_zero_le (show 0 ≤ n by omega)
  rw [decB_nat (by omega)]
  by_cases h3 : u = 0
  · subst h3; rw [if_pos (by simp), Lib.decDigits_one (by omega)]; rfl
  · rw [if_neg (by omega), refdec_loop 14 u k [] (by omega) (by omega) (by omega) (by simp) (by omega), List.append_nil]
theorem refundec_loop (s : ByteArray) (hs1 : 1 ≤ s.size) (hs : s.size ≤ 13) (d : Nat) : ∀ (k i acc : Nat), i + d = s.size → d + 21 < k → acc < 10 ^ i →
    afterglowref02_Undec.l0 k s (acc : Int) (i : Int) = some (match decval acc (s.data.toList.drop i) with
      | some v => if v ≤ 1099511627776 ∧ Lib.decDigits v = s.data.toList then ((v : Int), true) else (0, false)
      | none => (0, false)) := by
  have hlen := size_len s
  induction d with
  | zero =>
    intro k i acc hi hk ha
    obtain ⟨k, rfl⟩ : ∃ m, k = m + 1 := ⟨k - 1, by omega⟩
    simp only [afterglowref02_Undec.l0]
    rw [if_neg (by omega), List.drop_of_length_le (by omega), refDec_val _ k (by omega), Option.bind_some, Lib.toList_data, Lib.toList_data]
    simp only [decval]
    by_cases hv : acc ≤ 1099511627776
    · rw [decB_nat hv]
      by_cases he : Lib.decDigits acc = s.data.toList
      · rw [if_pos (by simpa using he), if_pos ⟨hv, he⟩]
      · rw [if_neg (by simpa using he), if_neg (fun h => he h.2)]
    · rw [decB_none (.inr (by omega)), if_neg, if_neg (fun h => hv h.1)]
      intro e
      have : s.data.toList.length = 0 := by rw [← e]; rfl
      omega
  | succ d ih =>
    intro k i acc hi hk ha
    obtain ⟨k, rfl⟩ : ∃ m, k = m + 1 := ⟨k - 1, by omega⟩
    have hil : i < s.data.toList.length := by omega
    have hp : 10 ^ i ≤ 10 ^ 12 := Nat.pow_le_pow_right (by omega) (by omega)
    have hp' : (10 : Nat) ^ 12 = 1000000000000 := by decide
    have hc := (s.data.toList[i]'hil).toNat_lt
    simp only [afterglowref02_Undec.l0]
    rw [if_pos (by omega), if_pos (by omega), bt_nat s i hil, List.drop_eq_getElem_cons hil]
    simp only [decval]
    by_cases h1 : (s.data.toList[i]'hil).toNat < 48
    · rw [if_pos (by omega), if_neg (by omega)]
    rw [if_neg (by omega)]
    by_cases h2 : (s.data.toList[i]'hil).toNat > 57
    · rw [if_pos (by omega), if_neg (by omega)]
    rw [if_neg (by omega), if_pos (by omega), wrap_nat i (by omega)]
    generalize (s.data.toList[i]'hil).toNat = c at *
    rw [show wrap64 (wrap64 (wrap64 (10 * (acc : Int)) + wrap64 (c : Int)) - 48) = ((10 * acc + (c - 48) : Nat) : Int) from by
      rw [w64 (x := 10 * (acc : Int)) (by omega) (by omega), w64 (x := (c : Int)) (by omega) (by omega), w64 (x := 10 * (acc : Int) + (c : Int)) (by omega) (by omega), w64 (by omega) (by omega)]; omega]
    exact ih k (i + 1) _ (by omega) (by omega) (by rw [Nat.pow_succ]; omega)
theorem refUndec_val (s : ByteArray) (k : Nat) (hk : 40 ≤ k) : afterglowref02_Undec.f k s = some (undecB s) := by
  obtain ⟨k, rfl⟩ : ∃ m, k = m + 1 := ⟨k - 1, by omega⟩
  have hlen := size_len s
  unfold afterglowref02_Undec.f
  by_cases h1 : (s.size : Int) < 1
  · rw [if_pos h1, undecB_none]
    · rfl
    · intro u _ e
      have : (Lib.decDigits u).length = 0 := by rw [← e]; omega
      exact dec_ne_nil u (List.eq_nil_of_length_eq_zero this)
  rw [if_neg h1]
  by_cases h2 : (s.size : Int) > 13
  · rw [decide_eq_true h2, undecB_none]
    · rfl
    · intro u hu e
      have := dec_length u 13 (by omega) (by omega)
      rw [← e] at this
      omega
  · rw [decide_eq_false h2]
    simp only [afterglowref02_Undec.j0]
    rw [if_neg (by simp)]
    have e := refundec_loop s (by omega) (by omega) s.size k 0 0 (by omega) (by omega) (by simp)
    rw [List.drop_zero] at e
    exact e
end Go.Proofs.YtaedhehiifkcbaaDoor.PG
namespace Go.Proofs.YtaedhehiifkcbaaDoor.Pl
def splitC (c : UInt8) : List UInt8 → List (List UInt8)
  | [] => [[]]
  | b :: r => if b = c then [] :: splitC c r else match splitC c r with
    | [] => [[b]]
    | w :: ws => (b :: w) :: ws
theorem splitC_ne (c : UInt8) : ∀ l, splitC c l ≠ []
  | [] => by simp [splitC]
  | b :: r => by
    rw [splitC]
    split
    · simp
    · split <;> simp
theorem splitC_sep (c : UInt8) (r : List UInt8) : splitC c (c :: r) = [] :: splitC c r := by rw [splitC, if_pos rfl]
theorem splitC_other {c b : UInt8} (h : b ≠ c) {r : List UInt8} {w : List UInt8} {ws : List (List UInt8)} (e : splitC c r = w :: ws) : splitC c (b :: r) = (b :: w) :: ws := by
  rw [splitC, if_neg h, e]
theorem join_single (x s : List UInt8) : Lib.join [x] s = x := by simp [Lib.join, List.intercalate]
theorem join_cons (x : List UInt8) (s y : List UInt8) (ys : List (List UInt8)) : Lib.join (x :: y :: ys) s = x ++ (s ++ Lib.join (y :: ys) s) := by
  simp [Lib.join, List.intercalate]
theorem join_head (b : UInt8) (w s : List UInt8) (ws : List (List UInt8)) : Lib.join ((b :: w) :: ws) s = b :: Lib.join (w :: ws) s := by
  cases ws with
  | nil => rw [join_single, join_single]
  | cons y ys => rw [join_cons, join_cons]; rfl
theorem join_splitC (c : UInt8) : ∀ l, Lib.join (splitC c l) [c] = l
  | [] => by rw [splitC, join_single]
  | b :: r => by
    have ih := join_splitC c r
    cases hs : splitC c r with
    | nil => exact absurd hs (splitC_ne c r)
    | cons w ws =>
      rw [hs] at ih
      by_cases h : b = c
      · subst h
        rw [splitC_sep, hs, join_cons, ih]; rfl
      · rw [splitC_other h hs, join_head, ih]
theorem splitC_none {c : UInt8} : ∀ {w : List UInt8}, c ∉ w → splitC c w = [w]
  | [], _ => rfl
  | b :: r, h => by
    simp only [List.mem_cons, not_or] at h
    exact splitC_other (fun e => h.1 e.symm) (splitC_none h.2)
theorem splitC_append {c : UInt8} : ∀ {w : List UInt8} (r : List UInt8), c ∉ w → splitC c (w ++ c :: r) = w :: splitC c r
  | [], r, _ => splitC_sep c r
  | b :: w, r, h => by
    simp only [List.mem_cons, not_or] at h
    rw [List.cons_append]
    exact splitC_other (fun e => h.1 e.symm) (splitC_append r h.2)
theorem splitC_join {c : UInt8} : ∀ {l : List (List UInt8)}, l ≠ [] → (∀ w ∈ l, c ∉ w) → splitC c (Lib.join l [c]) = l
  | [], h, _ => absurd rfl h
  | [w], _, h => by rw [join_single, splitC_none (h w (by simp))]
  | w :: v :: vs, _, h => by
    rw [join_cons]
    show splitC c (w ++ c :: Lib.join (v :: vs) [c]) = _
    rw [splitC_append _ (h w (by simp)), splitC_join (by simp) (fun x hx => h x (by simp [hx]))]
theorem splitC_piece (c : UInt8) (l : List UInt8) (w : List UInt8) (h : w ∈ splitC c l) : w.length ≤ l.length := by
  have e := join_splitC c l
  rw [← e]
  generalize splitC c l = xs at h
  clear e
  induction xs with
  | nil => cases h
  | cons x t ih =>
    cases t with
    | nil =>
      rw [join_single]
      simp only [List.mem_singleton] at h
      rw [h]; exact Nat.le_refl _
    | cons y ys =>
      rw [join_cons, List.length_append, List.length_append]
      rcases List.mem_cons.1 h with rfl | h
      · omega
      · have := ih h
        omega
theorem indexByte_first (c : UInt8) : ∀ (w r : List UInt8), c ∉ w → Lib.indexByte (w ++ c :: r) c = (w.length : Int)
  | [], r, _ => by
    rw [List.nil_append, Lib.indexByte, if_pos (by simp)]; rfl
  | b :: w, r, h => by
    simp only [List.mem_cons, not_or] at h
    rw [List.cons_append, Lib.indexByte, if_neg (by simpa using fun e => h.1 e.symm), indexByte_first c w r h.2, if_neg (by simp)]
    simp
theorem splitK_C (c : UInt8) : ∀ (k : Nat) (l : List UInt8), l.count c = k → Lib.splitK [c] 0 k l = splitC c l := by
  intro k
  induction k with
  | zero =>
    intro l h
    rw [Lib.splitK, splitC_none (List.count_eq_zero.1 h)]
  | succ k ih =>
    intro l h
    have hm : c ∈ l := List.count_pos_iff.1 (by omega)
    obtain ⟨w, r, rfl, hw⟩ := List.eq_append_cons_of_mem hm
    have hc : r.count c = k := by
      rw [List.count_append, List.count_cons_self, List.count_eq_zero.2 hw] at h
      omega
    have hi : Lib.index (w ++ c :: r) [c] = (w.length : Int) := by rw [Lib.index_one, indexByte_first c w r hw]
    rw [Lib.splitK, hi, if_neg (by simp), splitC_append r hw, Int.toNat_natCast, Nat.add_zero, List.take_left, List.length_singleton, List.drop_append, List.drop_of_length_le (by omega), show w.length + 1 - w.length = 1 by omega]
    congr 1
    exact ih r hc
theorem splitB_C (c : UInt8) (s : ByteArray) : (Lib.splitB ⟨#[c]⟩ 0 (Lib.countB s ⟨#[c]⟩) s).map (·.data.toList) = splitC c s.data.toList := by
  rw [Lib.splitB_data]
  refine splitK_C c _ _ ?_
  show _ = Lib.count s.data.toList [c]
  rw [Lib.count_one]
end Go.Proofs.YtaedhehiifkcbaaDoor.Pl
namespace Go.Proofs.YtaedhehiifkcbaaDoor.PG
open Go.RowKit Go.Proofs.YtaedhehiifkcbaaDoorW.PrintWords Go.Proofs.YtaedhehiifkcbaaDoorW.PrintLast Go.Proofs.YtaedhehiifkcbaaDoorW.PrintMore Go.Proofs.YtaedhehiifkcbaaDoor.Pl
abbrev ofL (l : List UInt8) : ByteArray := ⟨l.toArray⟩
theorem ofL_data (s : ByteArray) : ofL s.data.toList = s := ba_ext (by simp)
theorem map_ofL (l : List ByteArray) : (l.map (·.data.toList)).map ofL = l := by
  rw [List.map_map]
  conv => rhs; rw [← List.map_id l]
  exact List.map_congr_left (fun s _ => ofL_data s)
theorem ofL_size (l : List UInt8) : (ofL l).size = l.length := by simp [ByteArray.size]
theorem ofL_append (a b : List UInt8) : ofL a ++ ofL b = ofL (a ++ b) := by
  apply ByteArray.ext
  simp [ByteArray.data_append]
theorem rdOf_nat {α : Type} (z : α) (l : List α) (i : Nat) (h : i < l.length) : rdOf z l (i : Int) = l[i] := by
  unfold rdOf
  rw [Int.toNat_natCast, List.getD_eq_getElem?_getD, List.getElem?_eq_getElem h]; rfl
theorem toList_eq {a b : ByteArray} : a.toList = b.toList ↔ a = b := by
  rw [Lib.toList_data, Lib.toList_data]
  exact ⟨fun h => ba_ext h, fun h => by rw [h]⟩
theorem extract_one (s : ByteArray) (i : Nat) (h : i < s.data.toList.length) : s.extract i (i + 1) = ofL [s.data.toList[i]'h] := by
  apply ba_ext
  rw [ByteArray.data_extract]
  rw [Array.toList_extract, List.extract_eq_take_drop, Nat.add_sub_cancel_left, List.drop_eq_getElem_cons h]
  rfl
end Go.Proofs.YtaedhehiifkcbaaDoor.PG
namespace Go.Proofs.YtaedhehiifkcbaaDoor.PG
open Go.RowKit Go.Proofs.YtaedhehiifkcbaaDoorW.PrintWords Go.Proofs.YtaedhehiifkcbaaDoorW.PrintLast Go.Proofs.YtaedhehiifkcbaaDoorW.PrintMore Go.Proofs.YtaedhehiifkcbaaDoor.Pl
theorem undecB_dec {u : Nat} (h : u ≤ 1099511627776) : undecB (decB (u : Int)) = ((u : Int), true) := by
  rw [decB_nat h]
  exact undecB_some h rfl
theorem undecB_empty : undecB ⟨#[]⟩ = (0, false) := by
  refine undecB_none fun u _ e => ?_
  exact dec_ne_nil u (by simpa using e.symm)
theorem decB_cases (n : Int) : (decB n = ⟨#[]⟩ ∧ (n < 0 ∨ 1099511627776 < n)) ∨ ∃ u : Nat, n = u ∧ u ≤ 1099511627776 ∧ decB n = ofL (Lib.decDigits u) := by
  by_cases h : n < 0 ∨ 1099511627776 < n
  · exact .inl ⟨decB_none h, h⟩
  · obtain ⟨u, rfl⟩ := Int.eq_ofNat_of_zero_le (show 0 ≤ n by omega)
    exact .inr ⟨u, rfl, by omega, decB_nat (by omega)⟩
theorem decB_size (n : Int) : (decB n).size ≤ 13 := by
  rcases decB_cases n with ⟨e, _⟩ | ⟨u, _, hu, e⟩
  · rw [e]; decide
  · rw [e, ofL_size]
    exact dec_length u 13 (by omega) (by omega)
end Go.Proofs.YtaedhehiifkcbaaDoor.PG
namespace Go.Proofs.YtaedhehiifkcbaaDoor.PG
open Go.RowKit Go.Proofs.YtaedhehiifkcbaaDoorW.PrintWords Go.Proofs.YtaedhehiifkcbaaDoorW.PrintLast Go.Proofs.YtaedhehiifkcbaaDoorW.PrintMore Go.Proofs.YtaedhehiifkcbaaDoor.Pl
def keyB (a b c d : Int) : ByteArray := if decB a = ⟨#[]⟩ ∨ decB b = ⟨#[]⟩ ∨ decB c = ⟨#[]⟩ ∨ decB d = ⟨#[]⟩ then ⟨#[]⟩ else ofL (Lib.join [(decB a).data.toList, (decB b).data.toList, (decB c).data.toList, (decB d).data.toList] [46])
theorem decB_len (n : Int) : (decB n).data.toList.length ≤ 13 := by
  rw [Array.length_toList]
  exact decB_size n
theorem key_len (a b c d : Int) : (Lib.join [(decB a).data.toList, (decB b).data.toList, (decB c).data.toList, (decB d).data.toList] [46]).length ≤ 55 := by
  rw [join_cons, join_cons, join_cons, join_single]
  have := decB_len a
  have := decB_len b
  have := decB_len c
  have := decB_len d
  simp only [List.length_append, List.length_cons, List.length_nil]
  omega
theorem keyB_size (a b c d : Int) : (keyB a b c d).size ≤ 55 := by
  unfold keyB
  split
  · exact Nat.zero_le _
  · rw [ofL_size]; exact key_len a b c d
theorem Key_val (a b c d : Int) : page_Key.f a b c d = some (keyB a b c d) := by
  unfold page_Key.f slices_Contains_string_string.f strings_Join.f
  simp only [Dec_val, Option.bind_some]
  unfold keyB
  have hc : Lib.containsS [decB a, decB b, decB c, decB d] ⟨#[]⟩ = decide (decB a = ⟨#[]⟩ ∨ decB b = ⟨#[]⟩ ∨ decB c = ⟨#[]⟩ ∨ decB d = ⟨#[]⟩) := by
    unfold Lib.containsS Lib.idxOfS
    simp only [Lib.idxFromS]
    by_cases h0 : decB a = ⟨#[]⟩ <;> by_cases h1 : decB b = ⟨#[]⟩ <;> by_cases h2 : decB c = ⟨#[]⟩ <;> by_cases h3 : decB d = ⟨#[]⟩ <;> simp [h0, h1, h2, h3]
  rw [hc]
  by_cases h : decB a = ⟨#[]⟩ ∨ decB b = ⟨#[]⟩ ∨ decB c = ⟨#[]⟩ ∨ decB d = ⟨#[]⟩
  · rw [if_pos (by simpa using h), if_pos h]
  · have hk := key_len a b c d
    rw [if_neg (by simpa using h), if_neg h, if_pos ⟨by simp, by simpa using by omega⟩]
    rfl
theorem rd4 (a b c d : Int) : rd [a, b, c, d] 0 = a ∧ rd [a, b, c, d] 1 = b ∧ rd [a, b, c, d] 2 = c ∧ rd [a, b, c, d] 3 = d := ⟨rfl, rfl, rfl, rfl⟩
theorem ne_toList {s : ByteArray} : s.toList = [] ↔ s = ⟨#[]⟩ := ⟨fun h => ba_ext (by rw [Lib.toList_data] at h; exact h), fun h => by rw [h, Lib.toList_data]⟩
theorem refKey_val (a b c d : Int) (k : Nat) (hk : 60 ≤ k) : afterglowref14_Key.f k a b c d = some (keyB a b c d) := by
  obtain ⟨k, rfl⟩ : ∃ j, k = j + 45 := ⟨k - 45, by omega⟩
  obtain ⟨r0, r1, r2, r3⟩ := rd4 a b c d
  have ha := decB_size a
  have hb := decB_size b
  have hc := decB_size c
  have hd := decB_size d
  have step : ∀ (m : Nat) (x : Int) (i : Nat) (w : ByteArray), 40 ≤ m → rd [a, b, c, d] (i : Int) = x → i < 4 → w.size ≤ 60 →
      afterglowref14_Key.l0 (m + 1) [a, b, c, d] w (i : Int) = if decB x = ⟨#[]⟩ then some ⟨#[]⟩ else if i = 0 then afterglowref14_Key.l0 m [a, b, c, d] (w ++ decB x) ((i + 1 : Nat) : Int) else afterglowref14_Key.l0 m [a, b, c, d] ((w ++ (⟨#[46]⟩ : ByteArray)) ++ decB x) ((i + 1 : Nat) : Int) := by
    intro m x i w hm hx hi hw
    have hs := decB_size x
    rw [afterglowref14_Key.l0, if_pos (by omega), if_pos (by omega), if_pos (by simp; omega), hx, refDec_val x _ (by omega), Option.bind_some]
    by_cases h : decB x = ⟨#[]⟩
    · rw [if_pos (ne_toList.2 h), if_pos h]
    · rw [if_neg (fun e => h (ne_toList.1 e)), if_neg h, wrap_nat i (by omega)]
      by_cases h0 : i = 0
      · subst h0
        rw [if_neg (by omega), if_pos rfl, if_pos (by omega)]
      · rw [if_pos (by omega), if_neg h0, if_pos (by omega), if_pos (by rw [ByteArray.size_append]; show w.size + 1 + _ ≤ _; omega)]
  have h46 : (⟨#[46]⟩ : ByteArray).size = 1 := rfl
  unfold afterglowref14_Key.f keyB
  rw [show (0 : Int) = ((0 : Nat) : Int) from rfl, show k + 45 = (k + 44) + 1 from rfl, step (k + 44) a 0 _ (by omega) r0 (by omega) (by decide)]
  by_cases e0 : decB a = ⟨#[]⟩
  · rw [if_pos e0, if_pos (.inl e0)]
  rw [if_neg e0, if_pos rfl, show k + 44 = (k + 43) + 1 from rfl, step (k + 43) b 1 _ (by omega) r1 (by omega) (by rw [ByteArray.size_append]; show 0 + _ ≤ _; omega)]
  by_cases e1 : decB b = ⟨#[]⟩
  · rw [if_pos e1, if_pos (.inr (.inl e1))]
  rw [if_neg e1, if_neg (by omega), show k + 43 = (k + 42) + 1 from rfl, step (k + 42) c 2 _ (by omega) r2 (by omega) (by simp only [ByteArray.size_append, h46]; show 0 + _ + _ + _ ≤ _; omega)]
  by_cases e2 : decB c = ⟨#[]⟩
  · rw [if_pos e2, if_pos (.inr (.inr (.inl e2)))]
  rw [if_neg e2, if_neg (by omega), show k + 42 = (k + 41) + 1 from rfl, step (k + 41) d 3 _ (by omega) r3 (by omega) (by simp only [ByteArray.size_append, h46]; show 0 + _ + _ + _ + _ + _ ≤ _; omega)]
  by_cases e3 : decB d = ⟨#[]⟩
  · rw [if_pos e3, if_pos (.inr (.inr (.inr e3)))]
  rw [if_neg e3, if_neg (by omega), show k + 41 = (k + 40) + 1 from rfl, afterglowref14_Key.l0, if_neg (by omega), if_neg (by simp [e0, e1, e2, e3])]
  congr 1
  apply ba_ext
  simp [join_cons, join_single, ByteArray.data_append]
def finB (n : List Int) : List (List UInt8) → Int × Int × Int × Int × Bool
  | [] => if n.length = 4 then (rd n 0, rd n 1, rd n 2, rd n 3, true) else (0, 0, 0, 0, false)
  | p :: ps => if (undecB (ofL p)).2 = true then (if 4 ≤ n.length then (0, 0, 0, 0, false) else finB (n ++ [(undecB (ofL p)).1]) ps) else (0, 0, 0, 0, false)
def parseB (s : ByteArray) : Int × Int × Int × Int × Bool := finB [] (splitC 46 s.data.toList)
theorem Parse_val (s : ByteArray) (hs : s.size < 4294967281) : page_Parse.f s = some (parseB s) := by
  have hm : (Lib.splitB ⟨#[46]⟩ 0 (Lib.countB s ⟨#[46]⟩) s) = (splitC 46 s.data.toList).map ofL := by
    rw [← splitB_C, map_ofL]
  have hle : ∀ w ∈ splitC 46 s.data.toList, (ofL w).size ≤ 140737488351232 := fun w hw => by
    have h1 := splitC_piece 46 _ w hw
    have h2 := size_len s
    have h3 := ofL_size w
    omega
  unfold page_Parse.f strings_Split.f parseB
  rw [if_pos ⟨hs, by decide⟩, hm, Option.bind_some]
  have hne := splitC_ne 46 s.data.toList
  match hl : splitC 46 s.data.toList with
  | [] => exact absurd hl hne
  | [a] => simp [finB]
  | [a, b] => simp [finB]
  | [a, b, c] => simp [finB]
  | [a, b, c, d] =>
    rw [hl] at hle
    simp only [List.map_cons, List.map_nil]
    rw [Undec_val _ (hle a (by simp)), Undec_val _ (hle b (by simp)), Undec_val _ (hle c (by simp)), Undec_val _ (hle d (by simp))]
    simp only [Option.bind_some, finB]
    cases h0 : (undecB (ofL a)).2 <;> simp
    cases h1 : (undecB (ofL b)).2 <;> simp
    cases h2 : (undecB (ofL c)).2 <;> simp
    cases h3 : (undecB (ofL d)).2 <;> simp [rd]
  | a :: b :: c :: d :: e :: r =>
    simp only [List.map_cons, finB]
    cases (undecB (ofL a)).2 <;> simp
theorem refParse_loop (s : ByteArray) (hs : s.size ≤ 4294967281) (d : Nat) : ∀ (k i : Nat) (n : List Int) (w : List UInt8), i + d = s.size → 2 * d + 60 < k → (46 : UInt8) ∉ w → w.length ≤ i → n.length ≤ 4 →
    afterglowref14_Parse.l0 k s n (ofL w) (i : Int) = some (finB n (splitC 46 (w ++ s.data.toList.drop i))) := by
  have hsz : s.data.toList.length = s.size := Array.length_toList
  induction d with
  | zero =>
    intro k i n w hi hk hw hwi hn
    obtain ⟨k, rfl⟩ : ∃ j, k = j + 3 := ⟨k - 3, by omega⟩
    rw [List.drop_of_length_le (by omega), List.append_nil, splitC_none hw, afterglowref14_Parse.l0, if_pos (by omega), if_neg (by omega), afterglowref14_Parse.j1, if_neg (by decide), refUndec_val _ _ (by omega), Option.bind_some, finB]
    by_cases h : (undecB (ofL w)).2 = true
    · rw [if_pos h, if_pos h]
      by_cases h4 : 4 ≤ n.length
      · rw [if_pos (by omega), if_pos h4]
      · rw [if_neg (by omega), if_neg h4, if_pos (by omega), wrap_nat i (by omega), afterglowref14_Parse.l0, if_neg (by omega), finB]
        by_cases h5 : (n ++ [(undecB (ofL w)).1]).length = 4
        · rw [if_pos (by omega), if_pos (by omega), if_pos (by omega), if_pos (by omega), if_pos (by omega), if_pos h5]
        · rw [if_neg (by omega), if_neg h5]
    · rw [if_neg h, if_neg h]
  | succ d ih =>
    intro k i n w hi hk hw hwi hn
    obtain ⟨k, rfl⟩ : ∃ j, k = j + 2 := ⟨k - 2, by omega⟩
    have hil : i < s.data.toList.length := by omega
    rw [List.drop_eq_getElem_cons hil, afterglowref14_Parse.l0, if_pos (by omega), if_pos (by omega), if_pos (by omega), bt_nat s i (by omega), afterglowref14_Parse.j1]
    by_cases h46 : s.data.toList[i] = 46
    · rw [h46, if_neg (by decide), splitC_append _ hw, refUndec_val _ _ (by omega), Option.bind_some, finB]
      by_cases h : (undecB (ofL w)).2 = true
      · rw [if_pos h, if_pos h]
        by_cases h4 : 4 ≤ n.length
        · rw [if_pos (by omega), if_pos h4]
        · rw [if_neg (by omega), if_neg h4, if_pos (by omega), wrap_nat i (by omega)]
          have := ih k (i + 1) (n ++ [(undecB (ofL w)).1]) [] (by omega) (by omega) (by simp) (by simp) (by simp; omega)
          exact this
      · rw [if_neg h, if_neg h]
    · have hne : (((s.data.toList[i]).toNat : Int) != 46) = true := by
        rw [bne_iff_ne]
        intro e
        apply h46
        apply UInt8.toNat_inj.1
        have : (s.data.toList[i]).toNat = 46 := by omega
        rw [this]; rfl
      rw [hne, if_pos rfl, if_pos (by omega), wrap_nat i (by omega), if_pos (by omega), if_pos (by omega), Int.toNat_natCast, Int.toNat_natCast, extract_one s i hil, if_pos (by rw [ofL_size, ofL_size, List.length_singleton]; omega), ofL_append]
      have := ih k (i + 1) n (w ++ [s.data.toList[i]]) (by omega) (by omega) (by simp only [List.mem_append, List.mem_singleton, not_or]; exact ⟨hw, fun e => h46 e.symm⟩) (by simp; omega) hn
      rw [this, List.append_assoc]
      rfl
theorem refParse_val (s : ByteArray) (hs : s.size ≤ 4294967281) (k : Nat) (hk : 2 * s.size + 60 < k) : afterglowref14_Parse.f k s = some (parseB s) := by
  have := refParse_loop s hs s.size k 0 [] [] (by omega) hk (by simp) (by simp) (by simp)
  exact this
theorem undecB_decB {n : Int} (h : decB n ≠ ⟨#[]⟩) : undecB (decB n) = (n, true) := by
  rcases decB_cases n with ⟨h1, _⟩ | ⟨u, rfl, hu, _⟩
  · exact absurd h1 h
  · exact undecB_dec hu
theorem decB_46 (n : Int) : (46 : UInt8) ∉ (decB n).data.toList := by
  rcases decB_cases n with ⟨h1, _⟩ | ⟨u, rfl, hu, h⟩
  · rw [h1]; simp
  · rw [h]
    intro hm
    have := dec_digit u 46 (by simpa using hm)
    exact absurd this.1 (by decide)
theorem parse_key {a b c d : Int} (h : keyB a b c d ≠ ⟨#[]⟩) : parseB (keyB a b c d) = (a, b, c, d, true) := by
  unfold keyB at h ⊢
  by_cases hn : decB a = ⟨#[]⟩ ∨ decB b = ⟨#[]⟩ ∨ decB c = ⟨#[]⟩ ∨ decB d = ⟨#[]⟩
  · rw [if_pos hn] at h; exact absurd rfl h
  · rw [if_neg hn]
    simp only [not_or] at hn
    obtain ⟨h0, h1, h2, h3⟩ := hn
    unfold parseB
    rw [show (ofL (Lib.join [(decB a).data.toList, (decB b).data.toList, (decB c).data.toList, (decB d).data.toList] [46])).data.toList = Lib.join [(decB a).data.toList, (decB b).data.toList, (decB c).data.toList, (decB d).data.toList] [46] from rfl,
      splitC_join (by simp) (fun w hw => by
        simp only [List.mem_cons, List.mem_nil_iff, or_false] at hw
        rcases hw with rfl | rfl | rfl | rfl <;> exact decB_46 _)]
    simp [finB, ofL_data, undecB_decB h0, undecB_decB h1, undecB_decB h2, undecB_decB h3, rd]
theorem parse_empty : parseB ⟨#[]⟩ = (0, 0, 0, 0, false) := by
  unfold parseB
  simp [splitC, finB, undecB_empty]
end Go.Proofs.YtaedhehiifkcbaaDoor.PG
namespace Go.Proofs.YtaedhehiifkcbaaDoor.PG
open Go.RowKit Go.Proofs.YtaedhehiifkcbaaDoorW.PrintWords Go.Proofs.YtaedhehiifkcbaaDoorW.PrintLast Go.Proofs.YtaedhehiifkcbaaDoorW.PrintMore Go.Proofs.YtaedhehiifkcbaaDoor.Pl
def aheadP (x y : S39) : Prop := x.f0 < y.f0 ∨ x.f0 = y.f0 ∧ (x.f1 < y.f1 ∨ x.f1 = y.f1 ∧ (x.f2 < y.f2 ∨ x.f2 = y.f2 ∧ x.f3 < y.f3))
instance (x y : S39) : Decidable (aheadP x y) := by unfold aheadP; infer_instance
theorem ahead_trans {x y z : S39} (h : aheadP x y) (h' : aheadP y z) : aheadP x z := by
  unfold aheadP at *
  omega
theorem ahead_irrefl (x : S39) : ¬ aheadP x x := by
  unfold aheadP
  omega
theorem Ahead_val (x y : S39) : afterglowref08_Ahead.f x.f0 x.f1 x.f2 x.f3 y.f0 y.f1 y.f2 y.f3 = some (decide (aheadP x y)) := by
  unfold afterglowref08_Ahead.f aheadP
  by_cases h0 : x.f0 = y.f0
  · rw [if_pos h0]
    by_cases h1 : x.f1 = y.f1
    · rw [if_pos h1]
      by_cases h2 : x.f2 = y.f2
      · rw [if_pos h2]; congr 1; simp [h0, h1, h2]
      · rw [if_neg h2]; congr 1; simp [h0, h1, h2]
    · rw [if_neg h1]; congr 1; simp [h0, h1]
  · rw [if_neg h0]; congr 1; simp [h0]
def nw (x : S39) : S44 := ⟨⟨x.f0, x.f1⟩, x.f2, x.f3⟩
def od (x : S44) : S39 := ⟨x.f0.f0, x.f0.f1, x.f1, x.f2⟩
theorem od_nw (x : S39) : od (nw x) = x := rfl
def cmpI (a b : Int) : Int := if a < b then -1 else if a > b then 1 else 0
theorem Compare_val (a b : Int) : cmp_Compare_int.f a b = some (cmpI a b) := by
  unfold cmp_Compare_int.f cmp_isNaN_int.f cmpI
  simp
  split <;> (try split) <;> rfl
def orI : List Int → Int
  | [] => 0
  | x :: r => if x = 0 then orI r else x
def cmpS (x y : S39) : Int := orI [cmpI x.f0 y.f0, cmpI x.f1 y.f1, cmpI x.f2 y.f2, cmpI x.f3 y.f3]
theorem Or_loop (l : List Int) (hl : l.length ≤ 100) (d : Nat) : ∀ (k i : Nat), i + d = l.length → d < k → cmp_Or_int.l0 k 0 l (l.length : Int) (i : Int) = some (orI (l.drop i)) := by
  induction d with
  | zero =>
    intro k i hi hk
    obtain ⟨k, rfl⟩ : ∃ m, k = m + 1 := ⟨k - 1, by omega⟩
    rw [cmp_Or_int.l0, if_neg (by omega), List.drop_of_length_le (by omega)]; rfl
  | succ d ih =>
    intro k i hi hk
    obtain ⟨k, rfl⟩ : ∃ m, k = m + 1 := ⟨k - 1, by omega⟩
    have hil : i < l.length := by omega
    rw [cmp_Or_int.l0, if_pos (by omega), if_pos (by omega), if_pos (by omega), List.drop_eq_getElem_cons hil, orI, show rd l (i : Int) = l[i] from rdOf_nat 0 l i hil, wrap_nat i (by omega), ih k (i + 1) (by omega) (by omega)]
    split <;> rfl
theorem Cmp_val (x y : S44) (k : Nat) (hk : 5 ≤ k) : hist_Stay_Cmp.f k x.f0.f0 x.f0.f1 x.f1 x.f2 y.f0.f0 y.f0.f1 y.f1 y.f2 = some (cmpS (od x) (od y)) := by
  unfold hist_Stay_Cmp.f
  simp only [Compare_val, Option.bind_some]
  unfold cmp_Or_int.f
  have := Or_loop [cmpI x.f0.f0 y.f0.f0, cmpI x.f0.f1 y.f0.f1, cmpI x.f1 y.f1, cmpI x.f2 y.f2] (by simp) 4 k 0 (by simp) (by omega)
  rw [show ((0 : Nat) : Int) = 0 from rfl] at this
  rw [this, Option.bind_some]
  rfl
theorem cmpS_neg (x y : S39) : cmpS x y < 0 ↔ aheadP x y := by
  unfold cmpS aheadP cmpI
  simp only [orI]
  repeat' split
  all_goals omega
theorem cmpS_pos (x y : S39) : 0 < cmpS x y ↔ aheadP y x := by
  unfold cmpS aheadP cmpI
  simp only [orI]
  repeat' split
  all_goals omega
def risP (l : List S39) (j : Nat) : Bool := match l[j]? with
  | none => true
  | some y => decide (y.f0 < y.f1) && (match j with
    | 0 => true
    | i + 1 => match l[i]? with
      | none => true
      | some x => decide (aheadP x y))
def risB (l : List S39) : Bool := (List.range' 0 l.length).all (risP l)
theorem refRising_loop (l : List S39) (hl : l.length ≤ 9223372036854775807) (d : Nat) : ∀ (k i : Nat), i + d = l.length → d < k → afterglowref08_Rising.l0 k l (i : Int) = some ((List.range' i d).all (risP l)) := by
  induction d with
  | zero =>
    intro k i hi hk
    obtain ⟨k, rfl⟩ : ∃ m, k = m + 1 := ⟨k - 1, by omega⟩
    rw [afterglowref08_Rising.l0, if_neg (by omega)]; rfl
  | succ d ih =>
    intro k i hi hk
    obtain ⟨k, rfl⟩ : ∃ m, k = m + 1 := ⟨k - 1, by omega⟩
    have hil : i < l.length := by omega
    have hr : rd_T39 l (i : Int) = l[i] := by unfold rd_T39; simp [hil]
    rw [afterglowref08_Rising.l0, if_pos (by omega), if_pos (by omega), hr, List.range'_succ, List.all_cons]
    obtain ⟨y, hy⟩ : ∃ y, l[i] = y := ⟨_, rfl⟩
    have hg : l[i]? = some y := by rw [List.getElem?_eq_getElem hil, hy]
    rw [hy]
    by_cases hv : y.f1 ≤ y.f0
    · rw [if_pos hv, show risP l i = false from by unfold risP; rw [hg]; simp; omega]; rfl
    · rw [if_neg hv, wrap_nat i (by omega)]
      cases i with
      | zero => rw [if_neg (by omega), ih k 1 (by omega) (by omega), show risP l 0 = true from by unfold risP; rw [hg]; simp; omega]; rfl
      | succ j =>
        obtain ⟨x, hx⟩ : ∃ x, l[j]? = some x := ⟨l[j], List.getElem?_eq_getElem (by omega)⟩
        have hj : rd_T39 l (j : Int) = x := by unfold rd_T39; rw [Int.toNat_natCast, List.getD_eq_getElem?_getD, hx]; rfl
        rw [if_pos (by omega), show wrap64 (((j + 1 : Nat) : Int) - 1) = (j : Int) from by rw [w64 (by omega) (by omega)]; omega, if_pos (by omega), if_pos (by omega), hj, Ahead_val, Option.bind_some, ih k (j + 1 + 1) (by omega) (by omega), show risP l (j + 1) = decide (aheadP x y) from by unfold risP; rw [hg]; simp only [hx]; rw [decide_eq_true (show y.f0 < y.f1 by omega)]; rfl]
        by_cases ha : aheadP x y
        · simp [ha]
        · simp [ha]
theorem refRising_val (l : List S39) (hl : l.length ≤ 9223372036854775807) (k : Nat) (hk : l.length < k) : afterglowref08_Rising.f k l = some (risB l) :=
  refRising_loop l hl l.length k 0 (by omega) hk
theorem Rising_loop (l : List S39) (hl : l.length ≤ 1000000) (d : Nat) : ∀ (k i : Nat), i + d = l.length → d + 10 < k → hist_Rising.l0 k (l.map nw) (l.map nw) (l.length : Int) (i : Int) = some ((List.range' i d).all (risP l)) := by
  induction d with
  | zero =>
    intro k i hi hk
    obtain ⟨k, rfl⟩ : ∃ m, k = m + 1 := ⟨k - 1, by omega⟩
    rw [hist_Rising.l0, if_neg (by omega)]; rfl
  | succ d ih =>
    intro k i hi hk
    obtain ⟨k, rfl⟩ : ∃ m, k = m + 1 := ⟨k - 1, by omega⟩
    have hil : i < l.length := by omega
    obtain ⟨y, hg⟩ : ∃ y, l[i]? = some y := ⟨l[i], List.getElem?_eq_getElem hil⟩
    have hr : rd_T44 (l.map nw) (i : Int) = nw y := by unfold rd_T44; rw [Int.toNat_natCast, List.getD_eq_getElem?_getD, List.getElem?_map, hg]; rfl
    rw [hist_Rising.l0, if_pos (by omega), if_pos (by omega), if_pos (by rw [List.length_map]; omega), hr, List.range'_succ, List.all_cons]
    unfold span_Span_None.f
    rw [Option.bind_some]
    show (if decide (y.f1 ≤ y.f0) = true then _ else _) = _
    by_cases hv : y.f1 ≤ y.f0
    · rw [if_pos (by simpa using hv), show risP l i = false from by unfold risP; rw [hg]; simp; omega]; rfl
    · rw [if_neg (by simpa using hv), wrap_nat i (by omega)]
      cases i with
      | zero => rw [if_neg (by omega), ih k 1 (by omega) (by omega), show risP l 0 = true from by unfold risP; rw [hg]; simp; omega]; rfl
      | succ j =>
        obtain ⟨x, hx⟩ : ∃ x, l[j]? = some x := ⟨l[j], List.getElem?_eq_getElem (by omega)⟩
        have hj : rd_T44 (l.map nw) (j : Int) = nw x := by unfold rd_T44; rw [Int.toNat_natCast, List.getD_eq_getElem?_getD, List.getElem?_map, hx]; rfl
        rw [if_pos (by omega), show wrap64 (((j + 1 : Nat) : Int) - 1) = (j : Int) from by rw [w64 (by omega) (by omega)]; omega, if_pos (by omega), if_pos (by rw [List.length_map]; omega), hj, Cmp_val _ _ _ (by omega), Option.bind_some, ih k (j + 1 + 1) (by omega) (by omega), od_nw, od_nw, show risP l (j + 1) = decide (aheadP x y) from by unfold risP; rw [hg]; simp only [hx]; rw [decide_eq_true (show y.f0 < y.f1 by omega)]; rfl]
        have hc := cmpS_neg x y
        by_cases ha : aheadP x y
        · have := hc.2 ha
          rw [if_neg (by omega)]
          simp [ha]
        · have : ¬ cmpS x y < 0 := fun e => ha (hc.1 e)
          rw [if_pos (by omega)]
          simp [ha]
theorem Rising_val (l : List S39) (hl : l.length ≤ 1000000) (k : Nat) (hk : l.length + 10 < k) : hist_Rising.f k (l.map nw) = some (risB l) := by
  have := Rising_loop l hl l.length k 0 (by omega) hk
  unfold hist_Rising.f
  rw [List.length_map]
  exact this
end Go.Proofs.YtaedhehiifkcbaaDoor.PG
namespace Go.Proofs.YtaedhehiifkcbaaDoor.PG
open Go.RowKit Go.Proofs.YtaedhehiifkcbaaDoorW.PrintWords Go.Proofs.YtaedhehiifkcbaaDoorW.PrintLast Go.Proofs.YtaedhehiifkcbaaDoorW.PrintMore Go.Proofs.YtaedhehiifkcbaaDoor.Pl
abbrev St := S39
def keyS (x : St) : ByteArray := keyB x.f0 x.f1 x.f2 x.f3
theorem refKeyS (x : St) (k : Nat) (hk : 60 ≤ k) : afterglowref14_Key.f k x.f0 x.f1 x.f2 x.f3 = some (keyS x) := refKey_val _ _ _ _ k hk
def lastK (l : List St) : ByteArray := keyS (l.getLast?.getD ⟨0, 0, 0, 0⟩)
def pass (is : Bool) (fr x : St) : Bool := !is || decide (aheadP fr x)
def tellB (P : St → Bool) (m : Nat) (out : List St) (more : Bool) (r : List St) : List St × ByteArray × Int :=
  (out ++ (r.filter P).take (m - out.length), if more = true ∨ m < out.length + (r.filter P).length then lastK (out ++ (r.filter P).take (m - out.length)) else ⟨#[]⟩, 0)
theorem rd_last (l : List St) (h : l ≠ []) : rd_T39 l ((l.length : Int) - 1) = l.getLast?.getD ⟨0, 0, 0, 0⟩ := by
  have hl : 0 < l.length := List.length_pos_iff.2 h
  unfold rd_T39
  rw [show ((l.length : Int) - 1).toNat = l.length - 1 by omega, List.getLast?_eq_getElem?, List.getD_eq_getElem?_getD, List.getElem?_eq_getElem (by omega)]
  rfl
theorem refOf_loop (l : List St) (hl : l.length ≤ 9223372036854775807) (m : Nat) (hm : 1 ≤ m) (hm2 : m ≤ 100) (is : Bool) (fr : St) (d : Nat) : ∀ (k i : Nat) (out : List St) (more : Bool), i + d = l.length → 2 * d + 100 < k → out.length ≤ m → (more = true → out.length = m) →
    afterglowref14_Of.l0 k l (m : Int) is out more (i : Int) fr.f0 fr.f1 fr.f2 fr.f3 = some (if (l.drop i).all (fun x => decide (keyS x ≠ ⟨#[]⟩)) = true then tellB (pass is fr) m out more (l.drop i) else ([], ⟨#[]⟩, 140)) := by
  induction d with
  | zero =>
    intro k i out more hi hk ho hmo
    obtain ⟨k, rfl⟩ : ∃ j, k = j + 1 := ⟨k - 1, by omega⟩
    rw [afterglowref14_Of.l0, if_neg (by omega), List.drop_of_length_le (by omega)]
    simp only [List.all_nil, if_true, tellB, List.filter_nil, List.take_nil, List.append_nil, List.length_nil, Nat.add_zero]
    cases more with
    | false => rw [if_neg (by simp), if_neg (by simp; omega)]
    | true =>
      have h1 := hmo rfl
      have hne : out ≠ [] := by intro e; rw [e] at h1; simp at h1; omega
      rw [if_pos rfl, w64 (by omega) (by omega), if_pos (by omega), if_pos (by omega), rd_last out hne, refKeyS _ _ (by omega), Option.bind_some, if_pos (by simp)]
      rfl
  | succ d ih =>
    intro k i out more hi hk ho hmo
    obtain ⟨k, rfl⟩ : ∃ j, k = j + 2 := ⟨k - 2, by omega⟩
    have hil : i < l.length := by omega
    obtain ⟨y, hy⟩ : ∃ y, l[i] = y := ⟨_, rfl⟩
    have hr : rd_T39 l (i : Int) = y := by unfold rd_T39; rw [Int.toNat_natCast, List.getD_eq_getElem?_getD, List.getElem?_eq_getElem hil, hy]; rfl
    rw [List.drop_eq_getElem_cons hil, hy, List.all_cons, afterglowref14_Of.l0, if_pos (by omega), if_pos (by omega), hr, refKeyS _ _ (by omega), Option.bind_some]
    by_cases hk0 : keyS y = ⟨#[]⟩
    · rw [if_pos (ne_toList.2 hk0), if_neg (by simp [hk0])]
    rw [if_neg (fun e => hk0 (ne_toList.1 e)), show decide (keyS y ≠ ⟨#[]⟩) = true by simpa using hk0, Bool.true_and]
    have hj : ∀ b : Bool, b = !(pass is fr y) → afterglowref14_Of.j2 (k + 1) l (m : Int) is out more (i : Int) b fr.f0 fr.f1 fr.f2 fr.f3 = some (if (l.drop (i + 1)).all (fun x => decide (keyS x ≠ ⟨#[]⟩)) = true then tellB (pass is fr) m out more (y :: l.drop (i + 1)) else ([], ⟨#[]⟩, 140)) := by
      intro b hb
      rw [afterglowref14_Of.j2]
      cases hp : pass is fr y with
      | false =>
        rw [hb, hp, if_pos (by simp), wrap_nat i (by omega), ih k (i + 1) out more (by omega) (by omega) ho hmo]
        unfold tellB
        rw [List.filter_cons, hp]
        rfl
      | true =>
        rw [hb, hp, if_neg (by simp)]
        by_cases hf : out.length < m
        · have hmf : more = false := by cases more with | false => rfl | true => exact absurd (hmo rfl) (by omega)
          subst hmf
          rw [if_pos (by omega), if_pos (by omega), if_pos (by omega), if_pos (by omega), hr, wrap_nat i (by omega), ih k (i + 1) (out ++ [(⟨y.f0, y.f1, y.f2, y.f3⟩ : St)]) false (by omega) (by omega) (by simp; omega) (by simp)]
          unfold tellB
          rw [List.filter_cons, hp, if_pos rfl, show m - out.length = (m - (out.length + 1)) + 1 by omega, List.take_succ_cons]
          simp only [List.length_append, List.length_cons, List.length_nil, List.append_assoc, List.cons_append, List.nil_append]
          rw [show out.length + 1 + ((l.drop (i + 1)).filter (pass is fr)).length = out.length + (((l.drop (i + 1)).filter (pass is fr)).length + 1) by omega]
        · rw [if_neg (by omega), wrap_nat i (by omega), ih k (i + 1) out true (by omega) (by omega) ho (fun _ => by omega)]
          have e : tellB (pass is fr) m out more (y :: l.drop (i + 1)) = tellB (pass is fr) m out true (l.drop (i + 1)) := by
            unfold tellB
            rw [List.filter_cons, hp, if_pos rfl, show m - out.length = 0 by omega, List.take_zero, List.take_zero, if_pos (.inr (by simp only [List.length_cons]; omega)), if_pos (.inl rfl)]
          rw [e]
    cases is with
    | false => rw [if_neg (by simp)]; exact hj false (by simp [pass])
    | true =>
      rw [if_pos rfl, Ahead_val, Option.bind_some]
      exact hj _ (by simp [pass])
def frOf (c : ByteArray) : St := ⟨(parseB c).1, (parseB c).2.1, (parseB c).2.2.1, (parseB c).2.2.2.1⟩
def isOf (c : ByteArray) : Bool := (parseB c).2.2.2.2
def mOf (n : Int) : Nat := if n < 1 then 1 else if 100 < n then 100 else n.toNat
theorem mOf_le (n : Int) : 1 ≤ mOf n ∧ mOf n ≤ 100 := by
  unfold mOf
  repeat' split
  all_goals omega
def okOf (l : List St) (c : ByteArray) : Bool := (isOf c || decide (c = ⟨#[]⟩)) && (risB l && l.all fun x => decide (keyS x ≠ ⟨#[]⟩))
def ofB (l : List St) (c : ByteArray) (n : Int) : List St × ByteArray × Int := if okOf l c = true then tellB (pass (isOf c) (frOf c)) (mOf n) [] false l else ([], ⟨#[]⟩, 140)
theorem m_ref (n : Int) : mx 1 (mn n 100) = ((mOf n : Nat) : Int) := by
  unfold mx mn mOf
  repeat' split
  all_goals omega
theorem m_new (n : Int) : mn (mx n 1) 100 = ((mOf n : Nat) : Int) := by
  unfold mx mn mOf
  repeat' split
  all_goals omega
theorem refOf_val (l : List St) (hl : l.length ≤ 9223372036854775807) (c : ByteArray) (hc : c.size ≤ 4294967281) (n : Int) (k : Nat) (hk : 2 * l.length + 2 * c.size + 200 < k) : afterglowref14_Of.f k l c n = some (ofB l c n) := by
  unfold afterglowref14_Of.f
  rw [refParse_val c hc k (by omega), Option.bind_some, refRising_val l hl k (by omega)]
  obtain ⟨k, rfl⟩ : ∃ j, k = j + 1 := ⟨k - 1, by omega⟩
  have hj : ∀ b : Bool, b = !(risB l) → afterglowref14_Of.j0 (k + 1) l n (isOf c) b (frOf c).f0 (frOf c).f1 (frOf c).f2 (frOf c).f3 = some (if (risB l && l.all fun x => decide (keyS x ≠ ⟨#[]⟩)) = true then tellB (pass (isOf c) (frOf c)) (mOf n) [] false l else ([], ⟨#[]⟩, 140)) := by
    intro b hb
    rw [afterglowref14_Of.j0]
    cases hr : risB l with
    | false => rw [hb, hr, if_pos (by simp), Bool.false_and, if_neg (by simp)]
    | true =>
      rw [hb, hr, if_neg (by simp), m_ref, Bool.true_and]
      have := refOf_loop l hl (mOf n) (mOf_le n).1 (mOf_le n).2 (isOf c) (frOf c) l.length k 0 [] false (by omega) (by omega) (by simp) (by simp)
      exact this
  show (if isOf c = true then _ else _) = _
  unfold ofB okOf
  cases hi : isOf c with
  | true =>
    rw [if_pos rfl, Option.bind_some, Bool.true_or, Bool.true_and]
    have := hj (!risB l) rfl
    rw [hi] at this
    rw [show (parseB c).2.2.2.2 = true from hi]
    exact this
  | false =>
    rw [if_neg (by simp)]
    by_cases h0 : c = ⟨#[]⟩
    · rw [if_pos (ne_toList.2 h0), Option.bind_some, decide_eq_true h0, Bool.false_or, Bool.true_and]
      have := hj (!risB l) rfl
      rw [hi] at this
      rw [show (parseB c).2.2.2.2 = false from hi]
      exact this
    · rw [if_neg (fun e => h0 (ne_toList.1 e)), decide_eq_false h0, Bool.false_or, Bool.false_and, if_neg (by simp), afterglowref14_Of.j0, if_pos rfl]
theorem filter_rising (is : Bool) (fr : St) : ∀ l : List St, l.Pairwise aheadP → l.filter (pass is fr) = l.dropWhile (fun x => !pass is fr x)
  | [], _ => rfl
  | x :: r, h => by
    obtain ⟨h1, h2⟩ := List.pairwise_cons.1 h
    cases hp : pass is fr x with
    | false => rw [List.filter_cons, hp, List.dropWhile_cons, hp]; exact filter_rising is fr r h2
    | true =>
      rw [List.filter_cons, hp, List.dropWhile_cons, hp, if_pos rfl, if_neg (by simp)]
      congr 1
      rw [List.filter_eq_self]
      intro y hy
      have hxy := h1 y hy
      unfold pass at hp ⊢
      cases is with
      | false => rfl
      | true =>
        simp only [Bool.not_true, Bool.false_or, decide_eq_true_eq] at hp ⊢
        exact ahead_trans hp hxy
theorem rising_pairwise (l : List St) (h : risB l = true) : l.Pairwise aheadP := by
  have hadj : ∀ j x y, l[j]? = some x → l[j + 1]? = some y → aheadP x y := by
    intro j x y hx hy
    have hj : j + 1 < l.length := (List.getElem?_eq_some_iff.1 hy).1
    have := List.all_eq_true.1 h (j + 1) (by simp; omega)
    unfold risP at this
    rw [hy] at this
    simp only [hx, Bool.and_eq_true, decide_eq_true_eq] at this
    exact this.2
  have gen : ∀ (d i : Nat) x y, l[i]? = some x → l[i + d + 1]? = some y → aheadP x y := by
    intro d
    induction d with
    | zero => intro i x y hx hy; exact hadj i x y hx hy
    | succ d ih =>
      intro i x y hx hy
      have hlt : i + (d + 1) + 1 < l.length := (List.getElem?_eq_some_iff.1 hy).1
      obtain ⟨z, hz⟩ : ∃ z, l[i + d + 1]? = some z := ⟨l[i + d + 1], List.getElem?_eq_getElem (by omega)⟩
      exact ahead_trans (ih i x z hx hz) (hadj (i + d + 1) z y hz hy)
  rw [List.pairwise_iff_getElem]
  intro i j hi hj hij
  obtain ⟨d, rfl⟩ : ∃ d, j = i + d + 1 := ⟨j - i - 1, by omega⟩
  exact gen d i _ _ (List.getElem?_eq_getElem hi) (List.getElem?_eq_getElem hj)
theorem getD_nw (l : List St) (i : Nat) (y : St) (h : l[i]? = some y) : rd_T44 (l.map nw) (i : Int) = nw y := by
  unfold rd_T44
  rw [Int.toNat_natCast, List.getD_eq_getElem?_getD, List.getElem?_map, h]; rfl
theorem Of_tail (l : List St) (hl : l.length ≤ 1000000) (n : Int) (at_ : Nat) (ha : at_ ≤ l.length) (k : Nat) (hk : 1 ≤ k) : page_Of.j2 k (l.map nw) n (at_ : Int) =
    some (((l.drop at_).take (mOf n)).map nw, if mOf n < (l.drop at_).length then lastK ((l.drop at_).take (mOf n)) else ⟨#[]⟩, 0) := by
  obtain ⟨k, rfl⟩ : ∃ j, k = j + 1 := ⟨k - 1, by omega⟩
  obtain ⟨hm1, hm2⟩ := mOf_le n
  have he : mn ((l.map nw).length : Int) (wrap64 ((at_ : Int) + mn (mx n 1) 100)) = ((min l.length (at_ + mOf n) : Nat) : Int) := by
    rw [m_new, w64 (by omega) (by omega), List.length_map]
    unfold mn
    split <;> omega
  rw [page_Of.j2, he]
  unfold page_copied.f
  by_cases h : l.length ≤ at_ + mOf n
  · rw [if_pos (by rw [List.length_map]; omega), if_pos (by omega), if_pos (by rw [List.length_map]; omega), Int.toNat_natCast, if_pos (by simp; omega), Option.bind_some, ← List.map_drop, List.take_of_length_le (by simp; omega), if_neg (by simp; omega)]
  · have hlen : at_ + mOf n ≤ l.length := by omega
    obtain ⟨y, hy⟩ : ∃ y, l[at_ + mOf n - 1]? = some y := ⟨l[at_ + mOf n - 1], List.getElem?_eq_getElem (by omega)⟩
    rw [Nat.min_eq_right hlen, if_neg (by rw [List.length_map]; omega), if_pos (by omega), if_pos (by omega), if_pos (by rw [List.length_map]; omega), Int.toNat_natCast, Int.toNat_natCast, if_pos (by simp; omega), Option.bind_some,
      show wrap64 (((at_ + mOf n : Nat) : Int) - 1) = ((at_ + mOf n - 1 : Nat) : Int) from by rw [w64 (by omega) (by omega)]; omega, if_pos (by omega), if_pos (by rw [List.length_map]; omega), getD_nw l _ y hy, if_pos (by simp; omega)]
    have hk2 : page_Key.f (nw y).f0.f0 (nw y).f0.f1 (nw y).f1 (nw y).f2 = some (keyS y) := Key_val _ _ _ _
    have hdt : (l.take (at_ + mOf n)).drop at_ = (l.drop at_).take (mOf n) := by rw [List.drop_take]; congr 1; omega
    have hlast : lastK ((l.drop at_).take (mOf n)) = keyS y := by
      unfold lastK
      rw [List.getLast?_eq_getElem?, List.getElem?_take, List.getElem?_drop]
      simp only [List.length_take, List.length_drop]
      rw [if_pos (by omega), show at_ + (min (mOf n) (l.length - at_) - 1) = at_ + mOf n - 1 by omega, hy]; rfl
    rw [hk2, Option.bind_some, ← List.map_take, ← List.map_drop, hdt, hlast]
theorem dw_yes {is : Bool} {fr y : St} {r : List St} (h : pass is fr y = true) : (y :: r).dropWhile (fun x => !pass is fr x) = y :: r := by
  rw [List.dropWhile_cons, h]; rfl
theorem dw_no {is : Bool} {fr y : St} {r : List St} (h : pass is fr y = false) : (y :: r).dropWhile (fun x => !pass is fr x) = r.dropWhile (fun x => !pass is fr x) := by
  rw [List.dropWhile_cons, h]; rfl
theorem Of_loop (l : List St) (hl : l.length ≤ 1000000) (n : Int) (is : Bool) (fr : St) (d : Nat) : ∀ (k i : Nat), i + d = l.length → d + 20 < k →
    page_Of.l0 k (l.map nw) n is (i : Int) fr.f0 fr.f1 fr.f2 fr.f3 = some ((((l.drop i).dropWhile (fun x => !pass is fr x)).take (mOf n)).map nw, if mOf n < ((l.drop i).dropWhile (fun x => !pass is fr x)).length then lastK (((l.drop i).dropWhile (fun x => !pass is fr x)).take (mOf n)) else ⟨#[]⟩, 0) := by
  induction d with
  | zero =>
    intro k i hi hk
    obtain ⟨k, rfl⟩ : ∃ j, k = j + 1 := ⟨k - 1, by omega⟩
    have := Of_tail l hl n i (by omega) k (by omega)
    rw [page_Of.l0, if_neg (by rw [List.length_map]; omega), this, List.drop_of_length_le (by omega)]
    rfl
  | succ d ih =>
    intro k i hi hk
    obtain ⟨k, rfl⟩ : ∃ j, k = j + 1 := ⟨k - 1, by omega⟩
    have hil : i < l.length := by omega
    obtain ⟨y, hy⟩ : ∃ y, l[i]? = some y := ⟨l[i], List.getElem?_eq_getElem hil⟩
    have hdr : l.drop i = y :: l.drop (i + 1) := by
      rw [List.drop_eq_getElem_cons hil]
      congr 1
      have := List.getElem?_eq_getElem hil
      rw [hy] at this
      exact (Option.some.inj this).symm
    have hT := Of_tail l hl n i (by omega) k (by omega)
    rw [page_Of.l0, if_pos (by rw [List.length_map]; omega)]
    cases is with
    | false =>
      rw [if_neg (by simp), hT, hdr, dw_yes (by simp [pass])]
    | true =>
      have hc : hist_Stay_Cmp.f k (nw y).f0.f0 (nw y).f0.f1 (nw y).f1 (nw y).f2 fr.f0 fr.f1 fr.f2 fr.f3 = some (cmpS y fr) := Cmp_val (nw y) (nw fr) k (by omega)
      rw [if_pos rfl, if_pos (by omega), getD_nw l i y hy, hc, Option.bind_some]
      have hp := cmpS_pos y fr
      by_cases hle : cmpS y fr ≤ 0
      · rw [if_pos hle, wrap_nat i (by omega), ih k (i + 1) (by omega) (by omega), hdr, dw_no (by
          have : ¬ aheadP fr y := fun e => by have := hp.2 e; omega
          simp [pass, this])]
      · rw [if_neg hle, hT, hdr, dw_yes (by
          have : aheadP fr y := hp.1 (by omega)
          simp [pass, this])]
theorem keyless_val (x : St) : keyless (nw x) = some (decide (keyS x = ⟨#[]⟩)) := by
  unfold keyless page_Of_1.f
  rw [show page_Key.f (nw x).f0.f0 (nw x).f0.f1 (nw x).f1 (nw x).f2 = some (keyS x) from Key_val _ _ _ _, Option.bind_some]
  congr 1
  rw [Bool.eq_iff_iff, beq_iff_eq, decide_eq_true_iff]
  exact ne_toList
theorem Contains_val (l : List St) : slices_ContainsFunc_at_page_Of_1.f (l.map nw) = some (!(l.all fun x => decide (keyS x ≠ ⟨#[]⟩))) := by
  unfold slices_ContainsFunc_at_page_Of_1.f
  rw [if_pos (fun x hx => by
    obtain ⟨y, _, rfl⟩ := List.mem_map.1 hx
    rw [keyless_val]; rfl)]
  congr 1
  rw [List.any_map, List.not_all_eq_any_not]
  congr 1
  funext x
  show (keyless (nw x)).getD false = _
  rw [keyless_val]
  simp
theorem Of_val (l : List St) (hl : l.length ≤ 1000000) (c : ByteArray) (hc : c.size < 4294967281) (n : Int) (k : Nat) (hk : l.length + 40 < k) :
    page_Of.f k (l.map nw) c n = some ((ofB l c n).1.map nw, (ofB l c n).2.1, (ofB l c n).2.2) := by
  unfold page_Of.f
  rw [Parse_val c hc, Option.bind_some, Rising_val l hl k (by omega), Contains_val]
  obtain ⟨k, rfl⟩ : ∃ j, k = j + 1 := ⟨k - 1, by omega⟩
  have hj0 : page_Of.j0 (k + 1) (l.map nw) n (isOf c) true (frOf c).f0 (frOf c).f1 (frOf c).f2 (frOf c).f3 = some ([], ⟨#[]⟩, 140) := by rw [page_Of.j0, if_pos rfl]
  have hj1 : risB l = true → page_Of.j0 (k + 1) (l.map nw) n (isOf c) false (frOf c).f0 (frOf c).f1 (frOf c).f2 (frOf c).f3 = some ((tellB (pass (isOf c) (frOf c)) (mOf n) [] false l).1.map nw, (tellB (pass (isOf c) (frOf c)) (mOf n) [] false l).2.1, 0) := by
    intro hr
    have h := Of_loop l hl n (isOf c) (frOf c) l.length k 0 (by omega) (by omega)
    rw [List.drop_zero, ← filter_rising _ _ l (rising_pairwise l hr)] at h
    rw [page_Of.j0, if_neg (by simp)]
    refine h.trans ?_
    unfold tellB
    simp
  have hall : ∀ q : Bool, q = true → (isOf c || decide (c = ⟨#[]⟩)) = q →
      (if risB l = true then page_Of.j0 (k + 1) (l.map nw) n (isOf c) (!(l.all fun x => decide (keyS x ≠ ⟨#[]⟩))) (frOf c).f0 (frOf c).f1 (frOf c).f2 (frOf c).f3 else page_Of.j0 (k + 1) (l.map nw) n (isOf c) true (frOf c).f0 (frOf c).f1 (frOf c).f2 (frOf c).f3) = some ((ofB l c n).1.map nw, (ofB l c n).2.1, (ofB l c n).2.2) := by
    intro q hq h
    unfold ofB okOf
    rw [h, hq, Bool.true_and]
    cases hr : risB l with
    | false => rw [if_neg (by simp), hj0, Bool.false_and, if_neg (by simp)]; rfl
    | true =>
      rw [if_pos rfl, Bool.true_and]
      cases ha : (l.all fun x => decide (keyS x ≠ ⟨#[]⟩)) with
      | false => rw [if_neg (by simp)]; exact hj0
      | true => rw [if_pos rfl]; exact hj1 hr
  show (if isOf c = true then _ else _) = _
  cases hi : isOf c with
  | true =>
    have := hall true rfl (by rw [hi]; rfl)
    rw [hi] at this
    rw [if_pos rfl, Option.bind_some, show (parseB c).2.2.2.2 = true from hi]
    exact this
  | false =>
    rw [if_neg (by simp)]
    by_cases h0 : c = ⟨#[]⟩
    · have := hall true rfl (by rw [hi, decide_eq_true h0]; rfl)
      rw [hi] at this
      rw [if_pos (ne_toList.2 h0), Option.bind_some, show (parseB c).2.2.2.2 = false from hi]
      exact this
    · rw [hi] at hj0
      rw [if_neg (fun e => h0 (ne_toList.1 e)), show (parseB c).2.2.2.2 = false from hi]
      unfold ofB okOf
      rw [hi, decide_eq_false h0, Bool.false_or, Bool.false_and, if_neg (by simp)]
      exact hj0
end Go.Proofs.YtaedhehiifkcbaaDoor.PG
namespace Go.Proofs.YtaedhehiifkcbaaDoor.PG
open Go.RowKit Go.Proofs.YtaedhehiifkcbaaDoorW.PrintWords Go.Proofs.YtaedhehiifkcbaaDoorW.PrintLast Go.Proofs.YtaedhehiifkcbaaDoorW.PrintMore Go.Proofs.YtaedhehiifkcbaaDoor.Pl
def chunkF {α : Type} (m : Nat) : Nat → List α → List (List α)
  | 0, _ => []
  | k + 1, r => if m < r.length then r.take m :: chunkF m k (r.drop m) else [r]
theorem key_from {x : St} (h : keyS x ≠ ⟨#[]⟩) : isOf (keyS x) = true ∧ frOf (keyS x) = x := by
  have := parse_key h
  unfold isOf frOf
  rw [show parseB (keyS x) = (x.f0, x.f1, x.f2, x.f3, true) from this]
  exact ⟨rfl, rfl⟩
theorem filter_at (l : List St) (h : l.Pairwise aheadP) (j : Nat) (x : St) (hx : l[j]? = some x) : l.filter (pass true x) = l.drop (j + 1) := by
  induction l generalizing j with
  | nil => simp at hx
  | cons y r ih =>
    obtain ⟨h1, h2⟩ := List.pairwise_cons.1 h
    cases j with
    | zero =>
      obtain rfl : y = x := by simpa using hx
      rw [List.filter_cons, if_neg (by simp [pass, ahead_irrefl]), List.drop_succ_cons, List.drop_zero, List.filter_eq_self]
      intro z hz
      simpa [pass] using h1 z hz
    | succ j =>
      have hx' : r[j]? = some x := by simpa using hx
      have hm : x ∈ r := List.mem_of_getElem? hx'
      have hyx := h1 x hm
      have hn : ¬ aheadP x y := fun e => ahead_irrefl _ (ahead_trans hyx e)
      rw [List.filter_cons, if_neg (by simp [pass, hn]), List.drop_succ_cons]
      exact ih h2 j hx'
theorem all_go (l : List St) (hl : l.length ≤ 1000000) (n : Int) (hr : risB l = true) (hk : (l.all fun x => decide (keyS x ≠ ⟨#[]⟩)) = true) : ∀ (f j : Nat) (c : ByteArray), c.size < 4294967281 → j ≤ l.length → l.length - j < f →
    (l.filter (pass (isOf c) (frOf c)) = l.drop j) → (isOf c || decide (c = ⟨#[]⟩)) = true → page_All.go (l.map nw) n f c = some ((chunkF (mOf n) f (l.drop j)).map (·.map nw)) := by
  intro f
  induction f with
  | zero => intro j c _ _ h; omega
  | succ f ih =>
    intro j c hc hj hf hfil hok
    obtain ⟨hm1, hm2⟩ := mOf_le n
    have ho : ofB l c n = tellB (pass (isOf c) (frOf c)) (mOf n) [] false l := by
      unfold ofB okOf
      rw [hok, hr, hk]; rfl
    have ht : tellB (pass (isOf c) (frOf c)) (mOf n) [] false l = ((l.drop j).take (mOf n), if mOf n < (l.drop j).length then lastK ((l.drop j).take (mOf n)) else ⟨#[]⟩, 0) := by
      unfold tellB
      rw [hfil]
      simp
    rw [page_All.go, Of_val l hl c hc n _ (by rw [List.length_map]; omega), Option.bind_some, ho, ht, chunkF, if_pos rfl]
    by_cases hlt : mOf n < (l.drop j).length
    · have hlen : j + mOf n < l.length := by rw [List.length_drop] at hlt; omega
      obtain ⟨y, hy⟩ : ∃ y, l[j + mOf n - 1]? = some y := ⟨l[j + mOf n - 1], List.getElem?_eq_getElem (by omega)⟩
      have hlast : lastK ((l.drop j).take (mOf n)) = keyS y := by
        unfold lastK
        rw [List.getLast?_eq_getElem?, List.getElem?_take, List.getElem?_drop]
        simp only [List.length_take, List.length_drop]
        rw [if_pos (by omega), show j + (min (mOf n) (l.length - j) - 1) = j + mOf n - 1 by omega, hy]; rfl
      have hyk : keyS y ≠ ⟨#[]⟩ := by simpa using List.all_eq_true.1 hk y (List.mem_of_getElem? hy)
      obtain ⟨hi, hfr⟩ := key_from hyk
      rw [if_pos hlt, if_pos hlt, hlast, if_neg (fun e => hyk (ne_toList.1 e)), ih (j + mOf n) (keyS y) (by have := keyB_size y.f0 y.f1 y.f2 y.f3; unfold keyS; omega) (by omega) (by omega) (by rw [hi, hfr, filter_at l (rising_pairwise l hr) (j + mOf n - 1) y hy]; congr 1; omega) (by rw [hi]; rfl), Option.bind_some, List.drop_drop]
      rfl
    · rw [if_neg hlt, if_neg hlt, if_pos (ne_toList.2 rfl), List.take_of_length_le (by omega)]
      rfl
def allB (l : List St) (n : Int) : List (List St) := if okOf l ⟨#[]⟩ = true then chunkF (mOf n) (l.length + 2) l else []
theorem emp_is : isOf ⟨#[]⟩ = false := by unfold isOf; rw [parse_empty]
theorem All_val (l : List St) (hl : l.length ≤ 1000000) (n : Int) : page_All.f (l.map nw) n = some ((allB l n).map (·.map nw)) := by
  unfold page_All.f
  rw [if_pos (by rw [List.length_map]; omega), List.length_map]
  unfold allB
  cases ho : okOf l ⟨#[]⟩ with
  | false =>
    rw [page_All.go, Of_val l hl ⟨#[]⟩ (by decide) n _ (by rw [List.length_map]; omega), Option.bind_some]
    unfold ofB
    rw [ho, if_neg (by simp), if_neg (by decide)]
    rfl
  | true =>
    rw [if_pos rfl]
    unfold okOf at ho
    rw [emp_is, decide_eq_true rfl, Bool.false_or, Bool.true_and, Bool.and_eq_true] at ho
    refine (all_go l hl n ho.1 ho.2 (l.length + 2) 0 ⟨#[]⟩ (by decide) (by omega) (by omega) ?_ (by rw [emp_is]; rfl)).trans ?_
    · rw [emp_is, List.drop_zero, List.filter_eq_self]
      intro x _
      rfl
    · rw [List.drop_zero]
end Go.Proofs.YtaedhehiifkcbaaDoor.PG
namespace Go.Proofs.YtaedhehiifkcbaaDoor.PG
open Go.RowKit Go.Proofs.YtaedhehiifkcbaaDoorW.PrintWords Go.Proofs.YtaedhehiifkcbaaDoorW.PrintLast Go.Proofs.YtaedhehiifkcbaaDoorW.PrintMore Go.Proofs.YtaedhehiifkcbaaDoor.Pl
theorem dec_small (u : Nat) (h : u < 10) : decB (u : Int) = ofL [UInt8.ofNat (48 + u)] := by
  rw [decB_nat (by omega), Lib.decDigits, dif_pos h]
def s3 : St := ⟨3, 9, 1, 2⟩
def s4 : St := ⟨4, 9, 1, 2⟩
theorem d1 : decB 1 = ofL [49] := dec_small 1 (by omega)
theorem d2 : decB 2 = ofL [50] := dec_small 2 (by omega)
theorem d3 : decB 3 = ofL [51] := dec_small 3 (by omega)
theorem d4 : decB 4 = ofL [52] := dec_small 4 (by omega)
theorem d9 : decB 9 = ofL [57] := dec_small 9 (by omega)
theorem k3 : keyB 3 9 1 2 = (⟨#[51, 46, 57, 46, 49, 46, 50]⟩ : ByteArray) := by
  unfold keyB
  rw [d1, d2, d3, d9]
  decide +kernel
theorem k4 : keyB 4 9 1 2 = (⟨#[52, 46, 57, 46, 49, 46, 50]⟩ : ByteArray) := by
  unfold keyB
  rw [d1, d2, d4, d9]
  decide +kernel
theorem p3 : parseB (⟨#[51, 46, 57, 46, 49, 46, 50]⟩ : ByteArray) = (3, 9, 1, 2, true) := by
  rw [← k3]
  exact parse_key (by rw [k3]; decide)
theorem p0 : parseB (⟨#[51, 46, 57, 46, 49]⟩ : ByteArray) = (0, 0, 0, 0, false) := by
  have h : splitC 46 [51, 46, 57, 46, 49] = [[51], [57], [49]] := by decide +kernel
  unfold parseB
  show finB [] (splitC 46 [51, 46, 57, 46, 49]) = _
  rw [h]
  simp [finB]
theorem ok_row (c : ByteArray) (h : (isOf c || decide (c = ⟨#[]⟩)) = true) : okOf [s3, s4] c = true := by
  unfold okOf
  rw [h, Bool.true_and, Bool.and_eq_true]
  refine ⟨by decide +kernel, ?_⟩
  simp only [List.all_cons, List.all_nil, Bool.and_true, Bool.and_eq_true, decide_eq_true_eq]
  exact ⟨by unfold keyS s3; rw [k3]; decide, by unfold keyS s4; rw [k4]; decide⟩
theorem of_a : ofB [s3, s4] ⟨#[]⟩ 1 = ([s3], ⟨#[51, 46, 57, 46, 49, 46, 50]⟩, 0) := by
  unfold ofB
  rw [if_pos (ok_row _ (by rw [emp_is]; rfl)), emp_is]
  show ([s3], keyS s3, (0 : Int)) = _
  unfold keyS s3
  rw [k3]
theorem is3 : isOf (⟨#[51, 46, 57, 46, 49, 46, 50]⟩ : ByteArray) = true := by unfold isOf; rw [p3]
theorem fr3 : frOf (⟨#[51, 46, 57, 46, 49, 46, 50]⟩ : ByteArray) = s3 := by unfold frOf; rw [p3]; rfl
theorem of_b : ofB [s3, s4] ⟨#[51, 46, 57, 46, 49, 46, 50]⟩ 1 = ([s4], ⟨#[]⟩, 0) := by
  unfold ofB
  rw [if_pos (ok_row _ (by rw [is3]; rfl)), is3, fr3]
  unfold tellB
  rw [show [s3, s4].filter (pass true s3) = [s4] by simp [pass, aheadP, s3, s4]]
  rfl
theorem of_c : ofB [s3, s4] ⟨#[51, 46, 57, 46, 49]⟩ 1 = ([], ⟨#[]⟩, 140) := by
  unfold ofB okOf
  rw [show isOf (⟨#[51, 46, 57, 46, 49]⟩ : ByteArray) = false by unfold isOf; rw [p0], show decide ((⟨#[51, 46, 57, 46, 49]⟩ : ByteArray) = ⟨#[]⟩) = false by decide]
  rfl
theorem all_a : allB [s3, s4] 1 = [[s3], [s4]] := by
  unfold allB
  rw [if_pos (ok_row _ (by rw [emp_is]; rfl))]
  rfl
theorem all_0 : allB [] 1 = [[]] := by
  unfold allB
  rw [if_pos (by unfold okOf; rw [emp_is]; decide)]
  rfl
theorem alive14 (k : Nat) (hk : 1000 ≤ k) : afterglowlaw14_alive.f k = some true := by
  unfold afterglowlaw14_alive.f
  rw [Option.bind_some]
  rw [show ([(⟨(⟨3, 9⟩ : S42), 1, 2⟩ : S44), (⟨(⟨4, 9⟩ : S42), 1, 2⟩ : S44)] : List S44) = [s3, s4].map nw from rfl,
    Of_val _ (by decide) _ (by decide) 1 k (by simp; omega), of_a, Option.bind_some, Of_val _ (by decide) _ (by decide) 1 k (by simp; omega), of_b, Option.bind_some, Of_val _ (by decide) _ (by decide) 1 k (by simp; omega), of_c, Option.bind_some,
    Parse_val _ (by decide), p3, Option.bind_some, Key_val, k3, Option.bind_some, All_val _ (by decide) 1, all_a, show ([] : List S44) = ([] : List St).map nw from rfl, All_val _ (by decide) 1, all_0]
  simp [nw, s3, s4, rd_T44, Lib.toList_data]
end Go.Proofs.YtaedhehiifkcbaaDoor.PG
namespace Go.Proofs.YtaedhehiifkcbaaDoor.PG
open Go.RowKit Go.Proofs.YtaedhehiifkcbaaDoorW.PrintWords Go.Proofs.YtaedhehiifkcbaaDoorW.PrintLast Go.Proofs.YtaedhehiifkcbaaDoorW.PrintMore Go.Proofs.YtaedhehiifkcbaaDoor.Pl
abbrev Hs := S44
theorem rdS_mid (a b : List St) (y : St) : rd_T39 (a ++ y :: b) (a.length : Int) = y := by
  unfold rd_T39; simp
theorem rdH_mid (a b : List Hs) (y : Hs) : rd_T44 (a ++ y :: b) (a.length : Int) = y := by
  unfold rd_T44; simp
theorem News_loop (b : List St) : ∀ (a : List St) (k : Nat), (a ++ b).length < 4398046511104 → b.length < k →
    afterglowlaw08_News.l0 k (a.map nw) (a ++ b) ((a ++ b).length : Int) (a.length : Int) = some ((a ++ b).map nw) := by
  induction b with
  | nil =>
    intro a k hl hk
    obtain ⟨k, rfl⟩ : ∃ m, k = m + 1 := ⟨k - 1, by omega⟩
    rw [afterglowlaw08_News.l0, List.append_nil, if_neg (by omega)]
  | cons y r ih =>
    intro a k hl hk
    obtain ⟨k, rfl⟩ : ∃ m, k = m + 1 := ⟨k - 1, by omega⟩
    have h1 : (a ++ y :: r).length = a.length + r.length + 1 := by simp; omega
    have hn : afterglowlaw08_New.f y.f0 y.f1 y.f2 y.f3 = some (y.f0, y.f1, y.f2, y.f3) := by
      unfold afterglowlaw08_New.f afterglowlaw08_one.f
      rfl
    have := ih (a ++ [y]) k (by simp at hl ⊢; omega) (by simp at hk; omega)
    rw [show (a ++ [y]) ++ r = a ++ y :: r by simp, show (a ++ [y]).map nw = a.map nw ++ [nw y] by simp, show (a ++ [y]).length = a.length + 1 by simp] at this
    rw [afterglowlaw08_News.l0, if_pos (by omega), if_pos (by omega), if_pos (by omega), rdS_mid, hn, Option.bind_some, if_pos (by rw [List.length_map]; omega), wrap_nat _ (by omega)]
    exact this
theorem News_val (l : List St) (hl : l.length < 4398046511104) (k : Nat) (hk : l.length < k) : afterglowlaw08_News.f k l = some (l.map nw) :=
  News_loop l [] k hl hk
theorem Olds_loop (b : List Hs) : ∀ (a : List Hs) (k : Nat), (a ++ b).length < 4398046511104 → b.length < k →
    afterglowlaw08_Olds.l0 k (a.map od) (a ++ b) ((a ++ b).length : Int) (a.length : Int) = some ((a ++ b).map od) := by
  induction b with
  | nil =>
    intro a k hl hk
    obtain ⟨k, rfl⟩ : ∃ m, k = m + 1 := ⟨k - 1, by omega⟩
    rw [afterglowlaw08_Olds.l0, List.append_nil, if_neg (by omega)]
  | cons y r ih =>
    intro a k hl hk
    obtain ⟨k, rfl⟩ : ∃ m, k = m + 1 := ⟨k - 1, by omega⟩
    have h1 : (a ++ y :: r).length = a.length + r.length + 1 := by simp; omega
    have hn : afterglowlaw08_Old.f y.f0.f0 y.f0.f1 y.f1 y.f2 = some (y.f0.f0, y.f0.f1, y.f1, y.f2) := by
      unfold afterglowlaw08_Old.f
      rfl
    have := ih (a ++ [y]) k (by simp at hl ⊢; omega) (by simp at hk; omega)
    rw [show (a ++ [y]) ++ r = a ++ y :: r by simp, show (a ++ [y]).map od = a.map od ++ [od y] by simp, show (a ++ [y]).length = a.length + 1 by simp] at this
    rw [afterglowlaw08_Olds.l0, if_pos (by omega), if_pos (by omega), if_pos (by omega), rdH_mid, hn, Option.bind_some, if_pos (by rw [List.length_map]; omega), wrap_nat _ (by omega)]
    exact this
theorem Olds_val (l : List Hs) (hl : l.length < 4398046511104) (k : Nat) (hk : l.length < k) : afterglowlaw08_Olds.f k l = some (l.map od) :=
  Olds_loop l [] k hl hk
theorem map_od_nw (l : List St) : (l.map nw).map od = l := by
  rw [List.map_map]
  exact List.map_id'' (fun _ => rfl) l
theorem Same_loop (l : List St) (hl : l.length ≤ 9223372036854775807) (d : Nat) : ∀ (k i : Nat), i + d = l.length → d < k → afterglowref08_Same.l0 k l l (i : Int) = some true := by
  induction d with
  | zero =>
    intro k i hi hk
    obtain ⟨k, rfl⟩ : ∃ m, k = m + 1 := ⟨k - 1, by omega⟩
    rw [afterglowref08_Same.l0, if_neg (by omega)]
  | succ d ih =>
    intro k i hi hk
    obtain ⟨k, rfl⟩ : ∃ m, k = m + 1 := ⟨k - 1, by omega⟩
    rw [afterglowref08_Same.l0, if_pos (by omega), if_pos (by omega), if_pos (by omega), if_neg (by simp), wrap_nat i (by omega)]
    exact ih k (i + 1) (by omega) (by omega)
theorem Same_refl (l : List St) (hl : l.length ≤ 9223372036854775807) (k : Nat) (hk : l.length < k) : afterglowref08_Same.f k l l = some true := by
  unfold afterglowref08_Same.f
  rw [if_pos rfl]
  exact Same_loop l hl l.length k 0 (by omega) hk
end Go.Proofs.YtaedhehiifkcbaaDoor.PG
namespace Go.Proofs.YtaedhehiifkcbaaDoor
open Go.RowKit Go.Proofs.YtaedhehiifkcbaaDoorW.PrintWords Go.Proofs.YtaedhehiifkcbaaDoorW.PrintLast Go.Proofs.YtaedhehiifkcbaaDoorW.PrintMore Go.Proofs.YtaedhehiifkcbaaDoor.Pl Go.Proofs.YtaedhehiifkcbaaDoor.PG
namespace PageAll
theorem rdL_mid (a b : List (List Hs)) (y : List Hs) : rd_L6 (a ++ y :: b) (a.length : Int) = y := by
  unfold rd_L6; simp
theorem chunk_ne {α : Type} (m f : Nat) (r : List α) (h : 0 < f) : 0 < (chunkF m f r).length := by
  obtain ⟨f, rfl⟩ : ∃ g, f = g + 1 := ⟨f - 1, by omega⟩
  rw [chunkF]
  split <;> simp
theorem chunk_le {α : Type} (m : Nat) (hm : 1 ≤ m) : ∀ (f : Nat) (r : List α), (chunkF m f r).length ≤ r.length + 1
  | 0, r => Nat.zero_le _
  | f + 1, r => by
    rw [chunkF]
    split
    · have := chunk_le m hm f (r.drop m)
      rw [List.length_drop] at this
      rw [List.length_cons]
      omega
    · simp
theorem fin (l : List St) (hl : l.length ≤ 150) (m : Int) (x5 : List (List Hs)) (h5 : 0 < x5.length) (K : Nat) (hK : 1500 < K) :
    afterglowlaw14_PageAll.l0 K l x5 (l.map nw) m x5 (x5.length : Int) (x5.length : Int) = some true := by
  obtain ⟨K, rfl⟩ : ∃ j, K = j + 1 := ⟨K - 1, by omega⟩
  rw [afterglowlaw14_PageAll.l0, if_neg (by omega), alive14 _ (by omega), Option.bind_some, if_pos rfl, Olds_val _ (by simp; omega) _ (by simp; omega), Option.bind_some, map_od_nw, Same_refl l (by omega) _ (by omega), Option.bind_some, if_pos rfl, decide_eq_true (by omega)]
theorem go (l : List St) (hl : l.length ≤ 150) (m : Nat) (hm : 1 ≤ m) (hm2 : m ≤ 100) (x5 : List (List Hs)) (hx : x5.length ≤ 1000) : ∀ (f : Nat) (r : List St) (A : List (List Hs)) (x9 : List Hs) (K : Nat),
    r.length < f → x9 ++ r.map nw = l.map nw → (r = [] → l = []) → x5 = A ++ (chunkF m f r).map (·.map nw) → f + 2000 < K →
    afterglowlaw14_PageAll.l0 K l x5 x9 (m : Int) x5 (x5.length : Int) (A.length : Int) = some true
  | 0, _, _, _, _, h, _, _, _, _ => absurd h (by omega)
  | f + 1, r, A, x9, K, hf, h9, hr, h5, hK => by
    obtain ⟨K, rfl⟩ : ∃ j, K = j + 1 := ⟨K - 1, by omega⟩
    have h9l := congrArg List.length h9
    simp only [List.length_append, List.length_map] at h9l
    rw [chunkF] at h5
    by_cases hlt : m < r.length
    · rw [if_pos hlt, List.map_cons] at h5
      obtain ⟨p, hp⟩ : ∃ p, (r.take m).map nw = p := ⟨_, rfl⟩
      have hpl : p.length = m := by rw [← hp, List.length_map, List.length_take]; omega
      obtain ⟨C, hC⟩ : ∃ C, (chunkF m f (r.drop m)).map (·.map nw) = C := ⟨_, rfl⟩
      have hCl : 0 < C.length := by rw [← hC, List.length_map]; exact chunk_ne _ _ _ (by omega)
      replace h5 : x5 = A ++ p :: C := by rw [h5, ← hp, ← hC]
      have h5l : x5.length = A.length + C.length + 1 := by rw [h5]; simp; omega
      have hrd : rd_L6 x5 (A.length : Int) = p := by rw [h5]; exact rdL_mid _ _ _
      have ih := go l hl m hm hm2 x5 hx f (r.drop m) (A ++ [p]) (x9 ++ p) K (by rw [List.length_drop]; omega) (by rw [List.append_assoc, ← hp, ← List.map_append, List.take_append_drop]; exact h9) (fun e => by have := congrArg List.length e; rw [List.length_drop] at this; simp at this; omega) (by rw [h5, ← hC]; simp) (by omega)
      rw [List.length_append, List.length_singleton] at ih
      rw [afterglowlaw14_PageAll.l0, if_pos (by omega), if_pos (by omega), if_pos (by omega), hrd, hpl, if_neg (by omega), wrap_nat _ (by omega), if_pos (by omega), if_neg (by omega), if_neg (by omega), if_pos (by omega)]
      exact ih
    · rw [if_neg hlt, List.map_cons, List.map_nil] at h5
      have h5l : x5.length = A.length + 1 := by rw [h5]; simp
      have hrd : rd_L6 x5 (A.length : Int) = r.map nw := by rw [h5]; exact rdL_mid _ _ _
      have hfin := fin l hl (m : Int) x5 (by omega) K (by omega)
      have hnext : (if x9.length + (r.map nw).length < 4398046511104 then afterglowlaw14_PageAll.l0 K l x5 (x9 ++ r.map nw) (m : Int) x5 (x5.length : Int) ((A.length + 1 : Nat) : Int) else none) = some true := by
        rw [if_pos (by rw [List.length_map]; omega), h9, ← h5l]
        exact hfin
      rw [afterglowlaw14_PageAll.l0, if_pos (by omega), if_pos (by omega), if_pos (by omega), hrd, if_neg (by rw [List.length_map]; omega), wrap_nat _ (by omega), if_neg (by omega)]
      by_cases h0 : r.length = 0
      · have hl0 := hr (List.eq_nil_of_length_eq_zero h0)
        rw [if_pos (by rw [List.length_map]; omega), if_neg (by rw [hl0]; simp)]
        exact hnext
      · rw [if_neg (by rw [List.length_map]; omega)]
        exact hnext
end PageAll
theorem pure_PageAll (l : List St) (_ : ∀ x ∈ l, (Lit.int .i64 x.f0).wf = true ∧ (Lit.int .i64 x.f1).wf = true ∧ (Lit.int .i64 x.f2).wf = true ∧ (Lit.int .i64 x.f3).wf = true) (_ : l.length ≤ 9223372036854775807) (n : Int) (_ : (Lit.int .i64 n).wf = true) :
    ∃ k, afterglowlaw14_PageAll.f k l n = some true := by
  refine ⟨100000, ?_⟩
  unfold afterglowlaw14_PageAll.f
  by_cases hl : (l.length : Int) > 150
  · rw [if_pos hl, alive14 _ (by omega)]; rfl
  obtain ⟨hm1, hm2⟩ := mOf_le n
  rw [if_neg hl, News_val l (by omega) _ (by omega), Option.bind_some, All_val l (by omega) n, Option.bind_some, refOf_val l (by omega) ⟨#[]⟩ (by decide) n _ (by show 2 * l.length + 2 * 0 + 200 < _; omega), Option.bind_some]
  cases hok : okOf l ⟨#[]⟩ with
  | false =>
    have h1 : (ofB l ⟨#[]⟩ n).2.2 = 140 := by unfold ofB; rw [hok]; rfl
    have h2 : allB l n = [] := by unfold allB; rw [hok]; rfl
    rw [h1, if_neg (by decide), alive14 _ (by omega), Option.bind_some, if_pos rfl, h2]
    rfl
  | true =>
    have h1 : (ofB l ⟨#[]⟩ n).2.2 = 0 := by unfold ofB tellB; rw [hok]; rfl
    have h2 : allB l n = chunkF (mOf n) (l.length + 2) l := by unfold allB; rw [hok]; rfl
    have hc := PageAll.chunk_le (mOf n) hm1 (l.length + 2) l
    rw [h1, if_pos rfl, h2, m_new]
    exact PageAll.go l (by omega) (mOf n) hm1 hm2 _ (by rw [List.length_map]; omega) (l.length + 2) l [] [] 100000 (by omega) rfl (fun e => e) rfl (by omega)
end Go.Proofs.YtaedhehiifkcbaaDoor
namespace Go.Proofs.YtaedhehiifkcbaaDoor
open Go.ChangeShapes Go.WideShapes Go.ChangeAt Go.RowKit Go.Deep Go.Joins Go.Proofs.YtaedhehiifkcbaaDoorW.PrintWords Go.Proofs.YtaedhehiifkcbaaDoorW.PrintLast Go.Proofs.YtaedhehiifkcbaaDoorW.PrintMore
theorem bulk_one_le {H : Type} (d : DataW H) : 1 ≤ Rows.uptoBulk d := by
  cases d with
  | lit l => cases l <;> simp [Rows.uptoBulk]
  | nil => simp [Rows.uptoBulk]
  | ptr d => simp [Rows.uptoBulk]
  | slice elems spare => simp [Rows.uptoBulk]
  | agg parts => simp [Rows.uptoBulk]
  | iface t d => simp [Rows.uptoBulk]
  | map entries => simp [Rows.uptoBulk]
  | held h => simp [Rows.uptoBulk]
section
variable {H : Type} {enc : TypeId × Value → H} {P : Program} {W : World}
theorem row_of {α : Type} [Inhabited α] (d : Kd α) (Q : α → Prop) {base : Nat} {t e : TypeId} {v : Value} {dd : DataW H} {p : List MemPlace} (ht : P.underlying t = some (.slice e)) (hc : P.cellsOf e = d.sz)
    (dec : ∀ n cs y, DataW.trod enc P W 0 (fun _ => true) true n e cs = some y → ∃ x : α, d.K W x cs ∧ Q x)
    (hv : Value.okWide P W .any base t v) (h : DataW.Trod enc P W 0 (fun _ => true) true t v dd p) :
    ∃ (A : Option Addr) (c : Nat) (l : List α), v = .slice A l.length c ∧ Kd.C d W A l.length l ∧ l.length ≤ c ∧ (∀ x ∈ l, Q x) ∧ l.length ≤ Rows.uptoBulk dd := by
  obtain ⟨a, len, cap, rfl⟩ := okWide_slice ht hv
  obtain ⟨fuel, hf⟩ := h
  rcases open_slice ht hf with ⟨hcs, hx⟩ | ⟨x, l, c, m, n, D, Pl, hcs, _, hl, hm, hmm, hx, hcell⟩
  · simp [Value.cells] at hcs
    obtain ⟨rfl, rfl, rfl⟩ := hcs
    exact ⟨none, 0, [], rfl, Kd.C_nil _ _, Nat.le_refl _, (fun _ h => nomatch h), Nat.zero_le _⟩
  · simp [Value.cells] at hcs
    obtain ⟨rfl, rfl, rfl⟩ := hcs
    rw [if_pos rfl] at hmm
    subst hmm
    obtain ⟨X, hX⟩ := choose_lt (n := len) (α := α) (p := fun i z => Q z ∧ ∃ cs', cs'.length = d.sz ∧ d.K W z cs' ∧ ∀ j u, cs'[j]? = some u → W.cell? (x.add (i * d.sz + j)) = some u) (fun i hi => by
      obtain ⟨cs', h1, h2⟩ := hcell i (by omega)
      obtain ⟨z, hz, hq⟩ := dec n cs' _ h2
      obtain ⟨_, hlen, hcl⟩ := World.cells?_some h1
      rw [hc] at hlen hcl
      refine ⟨z, hq, cs', hlen, hz, fun j u hu => ?_⟩
      have hj : j < d.sz := by rw [← hlen]; exact (List.getElem?_eq_some_iff.1 hu).1
      rw [← Deep.add_add, hcl j hj, hu])
    have hlen : ((List.range len).map X).length = len := by simp
    refine ⟨some x, m, (List.range len).map X, by rw [hlen], ⟨rfl, by rw [hlen]; unfold maxLen at hm; omega, fun _ => ⟨x, rfl, fun j z hj => ?_⟩⟩, by omega, fun z hz => ?_, ?_⟩
    · have hjl : j < len := by have := (List.getElem?_eq_some_iff.1 hj).1; simpa using this
      rw [List.getElem?_map, List.getElem?_range hjl] at hj
      obtain rfl : X j = z := by simpa using hj
      obtain ⟨_, cs', h1, h2, h3⟩ := hX j hjl
      exact ⟨cs', h1, h2, h3⟩
    · obtain ⟨j, hj, rfl⟩ := List.mem_map.1 hz
      exact (hX j (List.mem_range.1 hj)).1
    · simp only [Prod.mk.injEq] at hx
      rw [hx.1, hlen]
      simp only [Rows.uptoBulk]
      have : ∀ (q : List (DataW H)), q.length ≤ Rows.uptoBulkAll q := fun q => by
        induction q with
        | nil => simp [Rows.uptoBulkAll]
        | cons z r ih => have := bulk_one_le z; simp only [Rows.uptoBulkAll, List.length_cons]; omega
      have h1 := this ((List.range len).map D)
      simp at h1
      omega
theorem struct_fields {t : TypeId} {fs : Array Field} {fuel : Nat} {cs : List Value} {x : DataW H × List MemPlace} (ht : P.underlying t = some (.struct fs)) (h : DataW.trod enc P W 0 (fun _ => true) true fuel t cs = some x) :
    cs.length = P.cellsOf t ∧ ∃ n, ∀ (i : Nat) (f : Field), fs[i]? = some f → ∃ y, DataW.trod enc P W 0 (fun _ => true) true n f.type ((cs.drop f.offset).take (P.cellsOf f.type)) = some y := by
  obtain ⟨xs, n, _, rfl, hl, hlen, hf⟩ := DataW.trod_struct ht h
  refine ⟨hl, n, fun i f hi => ?_⟩
  have := hf i f hi
  have hx : i < xs.length := by rw [hlen]; exact (Array.getElem?_eq_some_iff.1 hi).1
  exact ⟨xs[i], by rw [this]; exact List.getElem?_eq_getElem hx⟩
theorem struct_at {t : TypeId} {fs : Array Field} {fuel : Nat} {cs : List Value} {x : DataW H × List MemPlace} (ht : P.underlying t = some (.struct fs)) (h : DataW.trod enc P W 0 (fun _ => true) true fuel t cs = some x) :
    ∃ n, ∀ (i ft off k : Nat), (fs[i]?).map (fun f => (f.type, f.offset)) = some (ft, off) → P.cellsOf ft = k → ∃ y, DataW.trod enc P W 0 (fun _ => true) true n ft ((cs.drop off).take k) = some y := by
  obtain ⟨_, n, hf⟩ := struct_fields ht h
  refine ⟨n, fun i ft off k hi hk => ?_⟩
  obtain ⟨f, h1, h2⟩ := Option.map_eq_some_iff.1 hi
  obtain ⟨h3, h4⟩ := Prod.mk.injEq .. ▸ h2
  obtain ⟨y, hy⟩ := hf i f h1
  rw [h3, h4, hk] at hy
  exact ⟨y, hy⟩
end
end Go.Proofs.YtaedhehiifkcbaaDoor
