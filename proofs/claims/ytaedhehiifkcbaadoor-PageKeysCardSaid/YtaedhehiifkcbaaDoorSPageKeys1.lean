import Derived.Test.YtaedhehiifkcbaaDoorSPageKeys0
import Derived.Shelf.SlGeneric
import Derived.Shelf.SlicesQ.IndexFunc
import Derived.Laws.Entries
import Derived.Laws.CopyRow
import Derived.Lib.SlBuf
namespace Go.Proofs.YtaedhehiifkcbaaDoor.PG
open Go.RowKit Go.Proofs.YtaedhehiifkcbaaDoorW.PrintWords Go.Proofs.YtaedhehiifkcbaaDoorW.PrintLast Go.Proofs.YtaedhehiifkcbaaDoorW.PrintMore
attribute [local go_sem] max2_int min2_int max_two min_two max_three min_three max_four min_four   -- for this text's walks alone
set_option linter.unusedVariables false
set_option linter.unusedSimpArgs false
def cmp_isNaN_int.f (a0 : Int) : Option (Bool) := some (a0 != a0)
set_option maxHeartbeats 8000000 in
set_option maxRecDepth 100000 in
theorem cmp_isNaN_int.calls (a0 : Int) (r : Bool) (w : World) (h : cmp_isNaN_int.f a0 = some r) :
    Calls Tryd.prog 96 #[.int .i64 a0] w fun e w' => e = .returned (.bool r) ∧ Drawn0 w w' := by
  have H : (some (a0 != a0)) = some r := h
  clear h
  obtain rfl := Option.some.inj H
  go_enter Tryd.func96, Tryd.ntmps96
  go_wp2
  go_ret
  exact ⟨by first | rfl | (simp; done) | (simp [*]; done), by repeat (first | exact Drawn0.refl _ | apply Drawn0.step)⟩
def cmp_Compare_int.f (a0 : Int) (a1 : Int) : Option (Int) := (cmp_isNaN_int.f a0).bind fun t223 => ((cmp_isNaN_int.f a1).bind fun t224 => (if t223 = true then (if t224 = true then (some 0) else (some (-1))) else (if t224 = true then (some 1) else (if a0 < a1 then (some (-1)) else (if a0 > a1 then (some 1) else (some 0))))))
set_option maxHeartbeats 8000000 in
set_option maxRecDepth 100000 in
theorem cmp_Compare_int.calls (a0 : Int) (a1 : Int) (r : Int) (w : World) (h : cmp_Compare_int.f a0 a1 = some r) :
    Calls Tryd.prog 81 #[.int .i64 a0, .int .i64 a1] w fun e w' => e = .returned (.int .i64 r) ∧ Drawn0 w w' := by
  have H : ((cmp_isNaN_int.f a0).bind fun t223 => ((cmp_isNaN_int.f a1).bind fun t224 => (if t223 = true then (if t224 = true then (some 0) else (some (-1))) else (if t224 = true then (some 1) else (if a0 < a1 then (some (-1)) else (if a0 > a1 then (some 1) else (some 0))))))) = some r := h
  clear h
  replace H := Option.bind_eq_some_iff.mp H
  obtain ⟨t223, A30, H⟩ := H
  replace H : ((cmp_isNaN_int.f a1).bind fun t224 => (if t223 = true then (if t224 = true then (some 0) else (some (-1))) else (if t224 = true then (some 1) else (if a0 < a1 then (some (-1)) else (if a0 > a1 then (some 1) else (some 0)))))) = some r := H
  have A3 := Aside0.mk A30
  clear A30
  replace H := Option.bind_eq_some_iff.mp H
  obtain ⟨t224, A40, H⟩ := H
  replace H : (if t223 = true then (if t224 = true then (some 0) else (some (-1))) else (if t224 = true then (some 1) else (if a0 < a1 then (some (-1)) else (if a0 > a1 then (some 1) else (some 0))))) = some r := H
  have A4 := Aside0.mk A40
  clear A40
  by_cases c5 : t223 = true
  · subst c5
    have H1 : (if t224 = true then (some 0) else (some (-1))) = some r := by rw [if_pos rfl] at H; exact H
    clear H
    have H := H1
    clear H1
    by_cases c6 : t224 = true
    · subst c6
      have H1 : (some 0) = some r := by rw [if_pos rfl] at H; exact H
      clear H
      have H := H1
      clear H1
      obtain rfl := Option.some.inj H
      go_enter Tryd.func81, Tryd.ntmps81
      go_wp2_with (first | ((with_reducible refine gate_callee (f := 96) rfl ?_); refine goesL_ (some 8) rfl rfl Tryd.func96 (by kernel_rfl) rfl #[.int .i64 a0] rfl (by (try simp only [List.map_toArray, List.map_cons, List.map_nil]); first | done | rfl | (simp only [List.length_drop, List.length_take]; rfl)) ?_; (with_reducible refine (cmp_isNaN_int.calls a0 true _ A3.out).mono ?_); rintro e w' ⟨rfl, ⟨nd, rfl⟩⟩; refine ⟨_, rfl, ?_⟩) | ((with_reducible refine gate_callee (f := 96) rfl ?_); refine goesL_ (some 10) rfl rfl Tryd.func96 (by kernel_rfl) rfl #[.int .i64 a1] rfl (by (try simp only [List.map_toArray, List.map_cons, List.map_nil]); first | done | rfl | (simp only [List.length_drop, List.length_take]; rfl)) ?_; (with_reducible refine (cmp_isNaN_int.calls a1 true _ A4.out).mono ?_); rintro e w' ⟨rfl, ⟨nd, rfl⟩⟩; refine ⟨_, rfl, ?_⟩))
      go_ret
      exact ⟨by first | rfl | (simp; done) | (simp [*]; done), by repeat (first | exact Drawn0.refl _ | apply Drawn0.step)⟩
    · replace c6 := Bool.eq_false_iff.mpr c6
      subst c6
      have H1 : (some (-1)) = some r := by rw [if_neg (show ¬ (false = true) by decide)] at H; exact H
      clear H
      have H := H1
      clear H1
      obtain rfl := Option.some.inj H
      go_enter Tryd.func81, Tryd.ntmps81
      go_wp2_with (first | ((with_reducible refine gate_callee (f := 96) rfl ?_); refine goesL_ (some 8) rfl rfl Tryd.func96 (by kernel_rfl) rfl #[.int .i64 a0] rfl (by (try simp only [List.map_toArray, List.map_cons, List.map_nil]); first | done | rfl | (simp only [List.length_drop, List.length_take]; rfl)) ?_; (with_reducible refine (cmp_isNaN_int.calls a0 true _ A3.out).mono ?_); rintro e w' ⟨rfl, ⟨nd, rfl⟩⟩; refine ⟨_, rfl, ?_⟩) | ((with_reducible refine gate_callee (f := 96) rfl ?_); refine goesL_ (some 10) rfl rfl Tryd.func96 (by kernel_rfl) rfl #[.int .i64 a1] rfl (by (try simp only [List.map_toArray, List.map_cons, List.map_nil]); first | done | rfl | (simp only [List.length_drop, List.length_take]; rfl)) ?_; (with_reducible refine (cmp_isNaN_int.calls a1 false _ A4.out).mono ?_); rintro e w' ⟨rfl, ⟨nd, rfl⟩⟩; refine ⟨_, rfl, ?_⟩))
      go_ret
      exact ⟨by first | rfl | (simp; done) | (simp [*]; done), by repeat (first | exact Drawn0.refl _ | apply Drawn0.step)⟩
  · replace c5 := Bool.eq_false_iff.mpr c5
    subst c5
    have H1 : (if t224 = true then (some 1) else (if a0 < a1 then (some (-1)) else (if a0 > a1 then (some 1) else (some 0)))) = some r := by rw [if_neg (show ¬ (false = true) by decide)] at H; exact H
    clear H
    have H := H1
    clear H1
    by_cases c7 : t224 = true
    · subst c7
      have H1 : (some 1) = some r := by rw [if_pos rfl] at H; exact H
      clear H
      have H := H1
      clear H1
      obtain rfl := Option.some.inj H
      go_enter Tryd.func81, Tryd.ntmps81
      go_wp2_with (first | ((with_reducible refine gate_callee (f := 96) rfl ?_); refine goesL_ (some 8) rfl rfl Tryd.func96 (by kernel_rfl) rfl #[.int .i64 a0] rfl (by (try simp only [List.map_toArray, List.map_cons, List.map_nil]); first | done | rfl | (simp only [List.length_drop, List.length_take]; rfl)) ?_; (with_reducible refine (cmp_isNaN_int.calls a0 false _ A3.out).mono ?_); rintro e w' ⟨rfl, ⟨nd, rfl⟩⟩; refine ⟨_, rfl, ?_⟩) | ((with_reducible refine gate_callee (f := 96) rfl ?_); refine goesL_ (some 10) rfl rfl Tryd.func96 (by kernel_rfl) rfl #[.int .i64 a1] rfl (by (try simp only [List.map_toArray, List.map_cons, List.map_nil]); first | done | rfl | (simp only [List.length_drop, List.length_take]; rfl)) ?_; (with_reducible refine (cmp_isNaN_int.calls a1 true _ A4.out).mono ?_); rintro e w' ⟨rfl, ⟨nd, rfl⟩⟩; refine ⟨_, rfl, ?_⟩))
      go_ret
      exact ⟨by first | rfl | (simp; done) | (simp [*]; done), by repeat (first | exact Drawn0.refl _ | apply Drawn0.step)⟩
    · replace c7 := Bool.eq_false_iff.mpr c7
      subst c7
      have H1 : (if a0 < a1 then (some (-1)) else (if a0 > a1 then (some 1) else (some 0))) = some r := by rw [if_neg (show ¬ (false = true) by decide)] at H; exact H
      clear H
      have H := H1
      clear H1
      by_cases c8 : a0 < a1
      · rw [if_pos c8] at H
        have c8b0 : decide (a0 < a1) = true := decide_eq_true c8
        clear c8
        obtain rfl := Option.some.inj H
        go_enter Tryd.func81, Tryd.ntmps81
        go_wp2_with (first | ((with_reducible refine gate_callee (f := 96) rfl ?_); refine goesL_ (some 8) rfl rfl Tryd.func96 (by kernel_rfl) rfl #[.int .i64 a0] rfl (by (try simp only [List.map_toArray, List.map_cons, List.map_nil]); first | done | rfl | (simp only [List.length_drop, List.length_take]; rfl)) ?_; (with_reducible refine (cmp_isNaN_int.calls a0 false _ A3.out).mono ?_); rintro e w' ⟨rfl, ⟨nd, rfl⟩⟩; refine ⟨_, rfl, ?_⟩) | ((with_reducible refine gate_callee (f := 96) rfl ?_); refine goesL_ (some 10) rfl rfl Tryd.func96 (by kernel_rfl) rfl #[.int .i64 a1] rfl (by (try simp only [List.map_toArray, List.map_cons, List.map_nil]); first | done | rfl | (simp only [List.length_drop, List.length_take]; rfl)) ?_; (with_reducible refine (cmp_isNaN_int.calls a1 false _ A4.out).mono ?_); rintro e w' ⟨rfl, ⟨nd, rfl⟩⟩; refine ⟨_, rfl, ?_⟩))
        go_ret
        exact ⟨by first | rfl | (simp; done) | (simp [*]; done), by repeat (first | exact Drawn0.refl _ | apply Drawn0.step)⟩
      · rw [if_neg c8] at H
        have c8b0 : decide (a0 < a1) = false := decide_eq_false c8
        clear c8
        by_cases c9 : a0 > a1
        · rw [if_pos c9] at H
          have c9b0 : decide (a1 < a0) = true := decide_eq_true c9
          clear c9
          obtain rfl := Option.some.inj H
          go_enter Tryd.func81, Tryd.ntmps81
          go_wp2_with (first | ((with_reducible refine gate_callee (f := 96) rfl ?_); refine goesL_ (some 8) rfl rfl Tryd.func96 (by kernel_rfl) rfl #[.int .i64 a0] rfl (by (try simp only [List.map_toArray, List.map_cons, List.map_nil]); first | done | rfl | (simp only [List.length_drop, List.length_take]; rfl)) ?_; (with_reducible refine (cmp_isNaN_int.calls a0 false _ A3.out).mono ?_); rintro e w' ⟨rfl, ⟨nd, rfl⟩⟩; refine ⟨_, rfl, ?_⟩) | ((with_reducible refine gate_callee (f := 96) rfl ?_); refine goesL_ (some 10) rfl rfl Tryd.func96 (by kernel_rfl) rfl #[.int .i64 a1] rfl (by (try simp only [List.map_toArray, List.map_cons, List.map_nil]); first | done | rfl | (simp only [List.length_drop, List.length_take]; rfl)) ?_; (with_reducible refine (cmp_isNaN_int.calls a1 false _ A4.out).mono ?_); rintro e w' ⟨rfl, ⟨nd, rfl⟩⟩; refine ⟨_, rfl, ?_⟩))
          go_ret
          exact ⟨by first | rfl | (simp; done) | (simp [*]; done), by repeat (first | exact Drawn0.refl _ | apply Drawn0.step)⟩
        · rw [if_neg c9] at H
          have c9b0 : decide (a1 < a0) = false := decide_eq_false c9
          clear c9
          obtain rfl := Option.some.inj H
          go_enter Tryd.func81, Tryd.ntmps81
          go_wp2_with (first | ((with_reducible refine gate_callee (f := 96) rfl ?_); refine goesL_ (some 8) rfl rfl Tryd.func96 (by kernel_rfl) rfl #[.int .i64 a0] rfl (by (try simp only [List.map_toArray, List.map_cons, List.map_nil]); first | done | rfl | (simp only [List.length_drop, List.length_take]; rfl)) ?_; (with_reducible refine (cmp_isNaN_int.calls a0 false _ A3.out).mono ?_); rintro e w' ⟨rfl, ⟨nd, rfl⟩⟩; refine ⟨_, rfl, ?_⟩) | ((with_reducible refine gate_callee (f := 96) rfl ?_); refine goesL_ (some 10) rfl rfl Tryd.func96 (by kernel_rfl) rfl #[.int .i64 a1] rfl (by (try simp only [List.map_toArray, List.map_cons, List.map_nil]); first | done | rfl | (simp only [List.length_drop, List.length_take]; rfl)) ?_; (with_reducible refine (cmp_isNaN_int.calls a1 false _ A4.out).mono ?_); rintro e w' ⟨rfl, ⟨nd, rfl⟩⟩; refine ⟨_, rfl, ?_⟩))
          go_ret
          exact ⟨by first | rfl | (simp; done) | (simp [*]; done), by repeat (first | exact Drawn0.refl _ | apply Drawn0.step)⟩
def hist_Stay_Cmp.f (k : Nat) (a0_0 : Int) (a0_1 : Int) (a0_2 : Int) (a0_3 : Int) (a1_0 : Int) (a1_1 : Int) (a1_2 : Int) (a1_3 : Int) : Option (Int) := (cmp_Compare_int.f a0_0 a1_0).bind fun t227 => ((cmp_Compare_int.f a0_1 a1_1).bind fun t228 => ((cmp_Compare_int.f a0_2 a1_2).bind fun t229 => ((cmp_Compare_int.f a0_3 a1_3).bind fun t230 => ((cmp_Or_int.f k (([t227, t228, t229, t230] : List Int))).bind fun t234 => (some t234)))))
def hist_Stay_Cmp.T1 : Bool × List (List Nat × List Nat) := (true, [([], []), ([0], [0]), ([1], [1]), ([], []), ([3], [3]), ([4], [4]), ([2, 5], [2, 5]), ([], []), ([7], [7]), ([8], [8]), ([], []), ([10], [10]), ([11], [11]), ([9, 12, 6], [9, 12]), ([], []), ([14], [14]), ([], []), ([16], [16]), ([15, 17, 13], [15, 17]), ([], []), ([19], [19]), ([], []), ([21], [21]), ([20, 22, 18], [20, 22]), ([6, 13, 18, 23], [6, 13, 18, 23]), ([24, 23], [24]), ([25, 25, 0, 1, 2, 3, 4, 5, 6, 7, 8, 9, 10, 11, 12, 13, 14, 15, 16, 17, 18, 19, 20, 21, 22, 23, 24, 25], [25])])
def hist_Stay_Cmp.B1 : List Nat := [0, 1, 3, 0, 8, 24, 63, 0, 128, 384, 0, 1024, 3072, 8191, 0, 16384, 0, 65536, 262143, 0, 524288, 0, 2097152, 8388607, 16777215, 33554431, 67108863]
theorem hist_Stay_Cmp.tab1 : rtab .any (opsOf Tryd.f62 1) = hist_Stay_Cmp.T1 := by kernel_rfl
theorem hist_Stay_Cmp.bits1 : waitsOk hist_Stay_Cmp.T1.2 hist_Stay_Cmp.B1 = true := by kernel_rfl
set_option maxHeartbeats 8000000 in
set_option maxRecDepth 100000 in
theorem hist_Stay_Cmp.calls (k : Nat) (a0_0 : Int) (a0_1 : Int) (a0_2 : Int) (a0_3 : Int) (a1_0 : Int) (a1_1 : Int) (a1_2 : Int) (a1_3 : Int) (r : Int) (w : World) (h : hist_Stay_Cmp.f k a0_0 a0_1 a0_2 a0_3 a1_0 a1_1 a1_2 a1_3 = some r) :
    Calls Tryd.prog 62 #[.agg #[.int .i64 a0_0, .int .i64 a0_1, .int .i64 a0_2, .int .i64 a0_3], .agg #[.int .i64 a1_0, .int .i64 a1_1, .int .i64 a1_2, .int .i64 a1_3]] w fun e w' => e = .returned (.int .i64 r) ∧ Below w.heap.size w w' := by
  have hu44 := Tryd.underlying44
  have HB := Aside0.mk (Below.refl w.heap.size w)
  have H : ((cmp_Compare_int.f a0_0 a1_0).bind fun t227 => ((cmp_Compare_int.f a0_1 a1_1).bind fun t228 => ((cmp_Compare_int.f a0_2 a1_2).bind fun t229 => ((cmp_Compare_int.f a0_3 a1_3).bind fun t230 => ((cmp_Or_int.f k (([t227, t228, t229, t230] : List Int))).bind fun t234 => (some t234)))))) = some r := h
  clear h
  replace H := Option.bind_eq_some_iff.mp H
  obtain ⟨t227, A30, H⟩ := H
  replace H : ((cmp_Compare_int.f a0_1 a1_1).bind fun t228 => ((cmp_Compare_int.f a0_2 a1_2).bind fun t229 => ((cmp_Compare_int.f a0_3 a1_3).bind fun t230 => ((cmp_Or_int.f k (([t227, t228, t229, t230] : List Int))).bind fun t234 => (some t234))))) = some r := H
  have A3 := Aside0.mk A30
  clear A30
  replace H := Option.bind_eq_some_iff.mp H
  obtain ⟨t228, A40, H⟩ := H
  replace H : ((cmp_Compare_int.f a0_2 a1_2).bind fun t229 => ((cmp_Compare_int.f a0_3 a1_3).bind fun t230 => ((cmp_Or_int.f k (([t227, t228, t229, t230] : List Int))).bind fun t234 => (some t234)))) = some r := H
  have A4 := Aside0.mk A40
  clear A40
  replace H := Option.bind_eq_some_iff.mp H
  obtain ⟨t229, A50, H⟩ := H
  replace H : ((cmp_Compare_int.f a0_3 a1_3).bind fun t230 => ((cmp_Or_int.f k (([t227, t228, t229, t230] : List Int))).bind fun t234 => (some t234))) = some r := H
  have A5 := Aside0.mk A50
  clear A50
  replace H := Option.bind_eq_some_iff.mp H
  obtain ⟨t230, A60, H⟩ := H
  replace H : ((cmp_Or_int.f k (([t227, t228, t229, t230] : List Int))).bind fun t234 => (some t234)) = some r := H
  have A6 := Aside0.mk A60
  clear A60
  obtain ⟨y231, hy231⟩ : ∃ y_ : List Int, y_ = (([t227, t228, t229, t230] : List Int)) := ⟨_, rfl⟩
  replace H : ((cmp_Or_int.f k y231).bind fun t234 => (some t234)) = some r := by first | (rw [hy231]; with_reducible exact H) | (have H2_ := (Option.bind_some _ _).symm.trans H; rw [hy231]; with_reducible exact H2_) | (have H2_ := (Option.bind_some _ _).symm.trans H; with_reducible exact H2_) | with_reducible exact H | (rw [hy231]; exact H) | exact H
  have Ny231 := Aside0.mk hy231
  clear hy231
  replace H := Option.bind_eq_some_iff.mp H
  obtain ⟨t234, A70, H⟩ := H
  replace H : (some t234) = some r := H
  have A7 := Aside0.mk A70
  clear A70
  obtain rfl := Option.some.inj H
  go_enter Tryd.func62, Tryd.ntmps62
  try go_wp2_with (first | ((with_reducible refine gate_dst (N := 2) rfl ?_); refine box_event ?hg (N := 2) ?hd (cs := #[.int .i64 a0_0, .int .i64 a0_1, .int .i64 a0_2, .int .i64 a0_3]) (t := 44) ?hr ?_; (case hd => rfl); (case hg => rfl); (case hr => first | (go_simp; done) | (go_simp; rfl)); intro gb225 hg w8 hbox hb; have n0_ := Aside0.mk (below_step (by repeat (first | (with_reducible first | exact HB.out | apply below_alloc | apply pw_below_drewN | apply below_drew1) | exact HB.out)) hb); have n1_ := Aside0.mk (hbox); have n2_ := Aside0.mk ((by rw [hg]; exact (below_size (by repeat (first | (with_reducible first | exact HB.out | apply below_alloc | apply pw_below_drewN | apply below_drew1) | exact HB.out))) : w.heap.size ≤ gb225)); have n3_ := Aside0.mk ((by rw [hg]; exact (below_size (by repeat (first | (with_reducible first | exact HB.out | apply below_alloc | apply pw_below_drewN | apply below_drew1) | exact HB.out))) : w.heap.size ≤ gb225)); clear HB; have HB := n0_; have BK225 := n1_; have GW225 := n2_; have GE225 := n3_; clear n0_ n1_ n2_ n3_; clear hb hbox hg) | ((with_reducible refine gate_dst (N := 3) rfl ?_); refine box_event ?hg (N := 3) ?hd (cs := #[.int .i64 a1_0, .int .i64 a1_1, .int .i64 a1_2, .int .i64 a1_3]) (t := 44) ?hr ?_; (case hd => rfl); (case hg => rfl); (case hr => first | (go_simp; done) | (go_simp; rfl)); intro gb226 hg w9 hbox hb; have n0_ := Aside0.mk (blk_below (g := gb225) (o := .cells #[.int .i64 a0_0, .int .i64 a0_1, .int .i64 a0_2, .int .i64 a0_3] 44 (0, 0)) (by (with_reducible repeat (first | refine blk_drewN ?_ _ | refine blk_drew ?_ | refine blk_alloc ?_ _)); exact BK225.out) hb); have n1_ := Aside0.mk (below_step (by repeat (first | (with_reducible first | exact HB.out | apply below_alloc | apply pw_below_drewN | apply below_drew1 | refine below_set ?_ GE225.out) | exact HB.out)) hb); have n2_ := Aside0.mk (hbox); have n3_ := Aside0.mk ((by rw [hg]; exact (below_size (by repeat (first | (with_reducible first | exact HB.out | apply below_alloc | apply pw_below_drewN | apply below_drew1 | refine below_set ?_ GE225.out) | exact HB.out))) : w.heap.size ≤ gb226)); have n4_ := Aside0.mk ((by rw [hg]; exact (below_size (by repeat (first | (with_reducible first | exact HB.out | apply below_alloc | apply pw_below_drewN | apply below_drew1 | refine below_set ?_ GE225.out) | exact HB.out))) : w.heap.size ≤ gb226)); have n5_ := Aside0.mk ((by rw [hg]; exact Nat.ne_of_lt (blk_lt (g := gb225) (o := .cells #[.int .i64 a0_0, .int .i64 a0_1, .int .i64 a0_2, .int .i64 a0_3] 44 (0, 0)) (by (with_reducible repeat (first | refine blk_drewN ?_ _ | refine blk_drew ?_ | refine blk_alloc ?_ _)); exact BK225.out)) : gb225 ≠ gb226)); have n6_ := Aside0.mk ((by rw [hg]; exact Nat.ne_of_gt (blk_lt (g := gb225) (o := .cells #[.int .i64 a0_0, .int .i64 a0_1, .int .i64 a0_2, .int .i64 a0_3] 44 (0, 0)) (by (with_reducible repeat (first | refine blk_drewN ?_ _ | refine blk_drew ?_ | refine blk_alloc ?_ _)); exact BK225.out)) : gb226 ≠ gb225)); clear BK225; clear HB; have BK225 := n0_; have HB := n1_; have BK226 := n2_; have GW226 := n3_; have GE226 := n4_; have NB225_226 := n5_; have NB226_225 := n6_; clear n0_ n1_ n2_ n3_ n4_ n5_ n6_; clear hb hbox hg))
  have n0_ := Aside0.mk (blk_drew BK225.out)
  have n1_ := Aside0.mk (blk_drew BK226.out)
  have n2_ := Aside0.mk (below_drew1 HB.out)
  clear BK225
  clear BK226
  clear HB
  have BK225 := n0_
  have BK226 := n1_
  have HB := n2_
  clear n0_ n1_ n2_
  refine start_ (n := 27) (S := fun w' => w'.cell? ⟨gb225, 0, none⟩ = some (.int .i64 a0_0) ∧ w'.cell? ⟨gb225, 1, none⟩ = some (.int .i64 a0_1) ∧ w'.cell? ⟨gb225, 2, none⟩ = some (.int .i64 a0_2) ∧ w'.cell? ⟨gb225, 3, none⟩ = some (.int .i64 a0_3) ∧ w'.cell? ⟨gb226, 0, none⟩ = some (.int .i64 a1_0) ∧ w'.cell? ⟨gb226, 1, none⟩ = some (.int .i64 a1_1) ∧ w'.cell? ⟨gb226, 2, none⟩ = some (.int .i64 a1_2) ∧ w'.cell? ⟨gb226, 3, none⟩ = some (.int .i64 a1_3)) (ds := []) #[false, false, false, false, false, false, false, false, false, false, false, false, false, false, false, false, false, false, false, false, false, false, false, false, false, false, false] (by kernel_rfl) rfl rfl ⟨(blk_cell BK225.out 0).trans rfl, (blk_cell BK225.out 1).trans rfl, (blk_cell BK225.out 2).trans rfl, (blk_cell BK225.out 3).trans rfl, (blk_cell BK226.out 0).trans rfl, (blk_cell BK226.out 1).trans rfl, (blk_cell BK226.out 2).trans rfl, (blk_cell BK226.out 3).trans rfl⟩ (fun hHeld => ?_); refine with_tabW hist_Stay_Cmp.tab1 hist_Stay_Cmp.bits1 (fun HT_ HW_ => ?_)
  generalize w9.drew = w10 at BK225 BK226 HB hHeld ⊢
  refine pure_ (i := 0) (N := some 5) (v := ?_) (a' := ?_) #[true, false, false, false, false, false, false, false, false, false, false, false, false, false, false, false, false, false, false, false, false, false, false, false, false, false, false] rfl rfl (any_of HT_.out (by kernel_rfl)) (fun _ _ _ h => h) (Or.inl ⟨by rfl, ?_⟩) ?_ ?_
  rotate_left
  · intro w'
    go_simp
    with_reducible rfl
  rotate_left
  · simp only [Act.put, List.setIfInBounds_toArray, List.set_cons_zero, List.set_cons_succ, i64_w, i32_w]
    rfl
  refine pure_ (i := 1) (N := some 6) (v := ?_) (a' := ?_) #[true, true, false, false, false, false, false, false, false, false, false, false, false, false, false, false, false, false, false, false, false, false, false, false, false, false, false] rfl rfl (any_of HT_.out (by kernel_rfl)) (fun _ _ _ h => h) (Or.inl ⟨by rfl, ?_⟩) ?_ ?_
  rotate_left
  · intro w'
    go_simp
    with_reducible rfl
  rotate_left
  · simp only [Act.put, List.setIfInBounds_toArray, List.set_cons_zero, List.set_cons_succ, i64_w, i32_w]
    rfl
  refine pure_ (i := 3) (N := some 8) (v := ?_) (a' := ?_) #[true, true, false, true, false, false, false, false, false, false, false, false, false, false, false, false, false, false, false, false, false, false, false, false, false, false, false] rfl rfl (any_of HT_.out (by kernel_rfl)) (fun _ _ _ h => h) (Or.inl ⟨by rfl, ?_⟩) ?_ ?_
  rotate_left
  · intro w'
    go_simp
    with_reducible rfl
  rotate_left
  · simp only [Act.put, List.setIfInBounds_toArray, List.set_cons_zero, List.set_cons_succ, i64_w, i32_w]
    rfl
  refine pure_ (i := 4) (N := some 9) (v := ?_) (a' := ?_) #[true, true, false, true, true, false, false, false, false, false, false, false, false, false, false, false, false, false, false, false, false, false, false, false, false, false, false] rfl rfl (any_of HT_.out (by kernel_rfl)) (fun _ _ _ h => h) (Or.inl ⟨by rfl, ?_⟩) ?_ ?_
  rotate_left
  · intro w'
    go_simp
    with_reducible rfl
  rotate_left
  · simp only [Act.put, List.setIfInBounds_toArray, List.set_cons_zero, List.set_cons_succ, i64_w, i32_w]
    rfl
  refine pure_ (i := 7) (N := some 12) (v := ?_) (a' := ?_) #[true, true, false, true, true, false, false, true, false, false, false, false, false, false, false, false, false, false, false, false, false, false, false, false, false, false, false] rfl rfl (any_of HT_.out (by kernel_rfl)) (fun _ _ _ h => h) (Or.inl ⟨by rfl, ?_⟩) ?_ ?_
  rotate_left
  · intro w'
    go_simp
    with_reducible rfl
  rotate_left
  · simp only [Act.put, List.setIfInBounds_toArray, List.set_cons_zero, List.set_cons_succ, i64_w, i32_w]
    rfl
  refine pure_ (i := 8) (N := some 13) (v := ?_) (a' := ?_) #[true, true, false, true, true, false, false, true, true, false, false, false, false, false, false, false, false, false, false, false, false, false, false, false, false, false, false] rfl rfl (any_of HT_.out (by kernel_rfl)) (fun _ _ _ h => h) (Or.inl ⟨by rfl, ?_⟩) ?_ ?_
  rotate_left
  · intro w'
    go_simp
    with_reducible rfl
  rotate_left
  · simp only [Act.put, List.setIfInBounds_toArray, List.set_cons_zero, List.set_cons_succ, i64_w, i32_w]
    rfl
  refine pure_ (i := 10) (N := some 15) (v := ?_) (a' := ?_) #[true, true, false, true, true, false, false, true, true, false, true, false, false, false, false, false, false, false, false, false, false, false, false, false, false, false, false] rfl rfl (any_of HT_.out (by kernel_rfl)) (fun _ _ _ h => h) (Or.inl ⟨by rfl, ?_⟩) ?_ ?_
  rotate_left
  · intro w'
    go_simp
    with_reducible rfl
  rotate_left
  · simp only [Act.put, List.setIfInBounds_toArray, List.set_cons_zero, List.set_cons_succ, i64_w, i32_w]
    rfl
  refine pure_ (i := 11) (N := some 16) (v := ?_) (a' := ?_) #[true, true, false, true, true, false, false, true, true, false, true, true, false, false, false, false, false, false, false, false, false, false, false, false, false, false, false] rfl rfl (any_of HT_.out (by kernel_rfl)) (fun _ _ _ h => h) (Or.inl ⟨by rfl, ?_⟩) ?_ ?_
  rotate_left
  · intro w'
    go_simp
    with_reducible rfl
  rotate_left
  · simp only [Act.put, List.setIfInBounds_toArray, List.set_cons_zero, List.set_cons_succ, i64_w, i32_w]
    rfl
  refine pure_ (i := 14) (N := some 19) (v := ?_) (a' := ?_) #[true, true, false, true, true, false, false, true, true, false, true, true, false, false, true, false, false, false, false, false, false, false, false, false, false, false, false] rfl rfl (any_of HT_.out (by kernel_rfl)) (fun _ _ _ h => h) (Or.inl ⟨by rfl, ?_⟩) ?_ ?_
  rotate_left
  · intro w'
    go_simp
    with_reducible rfl
  rotate_left
  · simp only [Act.put, List.setIfInBounds_toArray, List.set_cons_zero, List.set_cons_succ, i64_w, i32_w]
    rfl
  refine pure_ (i := 16) (N := some 21) (v := ?_) (a' := ?_) #[true, true, false, true, true, false, false, true, true, false, true, true, false, false, true, false, true, false, false, false, false, false, false, false, false, false, false] rfl rfl (any_of HT_.out (by kernel_rfl)) (fun _ _ _ h => h) (Or.inl ⟨by rfl, ?_⟩) ?_ ?_
  rotate_left
  · intro w'
    go_simp
    with_reducible rfl
  rotate_left
  · simp only [Act.put, List.setIfInBounds_toArray, List.set_cons_zero, List.set_cons_succ, i64_w, i32_w]
    rfl
  refine pure_ (i := 19) (N := some 24) (v := ?_) (a' := ?_) #[true, true, false, true, true, false, false, true, true, false, true, true, false, false, true, false, true, false, false, true, false, false, false, false, false, false, false] rfl rfl (any_of HT_.out (by kernel_rfl)) (fun _ _ _ h => h) (Or.inl ⟨by rfl, ?_⟩) ?_ ?_
  rotate_left
  · intro w'
    go_simp
    with_reducible rfl
  rotate_left
  · simp only [Act.put, List.setIfInBounds_toArray, List.set_cons_zero, List.set_cons_succ, i64_w, i32_w]
    rfl
  refine pure_ (i := 21) (N := some 26) (v := ?_) (a' := ?_) #[true, true, false, true, true, false, false, true, true, false, true, true, false, false, true, false, true, false, false, true, false, true, false, false, false, false, false] rfl rfl (any_of HT_.out (by kernel_rfl)) (fun _ _ _ h => h) (Or.inl ⟨by rfl, ?_⟩) ?_ ?_
  rotate_left
  · intro w'
    go_simp
    with_reducible rfl
  rotate_left
  · simp only [Act.put, List.setIfInBounds_toArray, List.set_cons_zero, List.set_cons_succ, i64_w, i32_w]
    rfl
  refine take_ (i := 2) (N := some 7) (v := ?_) (a' := ?_) #[true, true, true, true, true, false, false, true, true, false, true, true, false, false, true, false, true, false, false, true, false, true, false, false, false, false, false] rfl rfl (take_ofW HT_.out HW_.out (by kernel_rfl)) (fun _ _ _ h => h) (Or.inl ⟨by rfl, ?_⟩) hHeld ?_ ?_
  rotate_left
  · rintro w' ⟨s0, s1, s2, s3, s4, s5, s6, s7⟩
    go_simp
    with_reducible rfl
  rotate_left
  · simp only [Act.put, List.setIfInBounds_toArray, List.set_cons_zero, List.set_cons_succ, i64_w, i32_w]
    rfl
  refine take_ (i := 5) (N := some 10) (v := ?_) (a' := ?_) #[true, true, true, true, true, true, false, true, true, false, true, true, false, false, true, false, true, false, false, true, false, true, false, false, false, false, false] rfl rfl (take_ofW HT_.out HW_.out (by kernel_rfl)) (fun _ _ _ h => h) (Or.inl ⟨by rfl, ?_⟩) hHeld ?_ ?_
  rotate_left
  · rintro w' ⟨s0, s1, s2, s3, s4, s5, s6, s7⟩
    go_simp
    with_reducible rfl
  rotate_left
  · simp only [Act.put, List.setIfInBounds_toArray, List.set_cons_zero, List.set_cons_succ, i64_w, i32_w]
    rfl
  refine take_ (i := 9) (N := some 14) (v := ?_) (a' := ?_) #[true, true, true, true, true, true, false, true, true, true, true, true, false, false, true, false, true, false, false, true, false, true, false, false, false, false, false] rfl rfl (take_ofW HT_.out HW_.out (by kernel_rfl)) (fun _ _ _ h => h) (Or.inl ⟨by rfl, ?_⟩) hHeld ?_ ?_
  rotate_left
  · rintro w' ⟨s0, s1, s2, s3, s4, s5, s6, s7⟩
    go_simp
    with_reducible rfl
  rotate_left
  · simp only [Act.put, List.setIfInBounds_toArray, List.set_cons_zero, List.set_cons_succ, i64_w, i32_w]
    rfl
  refine take_ (i := 12) (N := some 17) (v := ?_) (a' := ?_) #[true, true, true, true, true, true, false, true, true, true, true, true, true, false, true, false, true, false, false, true, false, true, false, false, false, false, false] rfl rfl (take_ofW HT_.out HW_.out (by kernel_rfl)) (fun _ _ _ h => h) (Or.inl ⟨by rfl, ?_⟩) hHeld ?_ ?_
  rotate_left
  · rintro w' ⟨s0, s1, s2, s3, s4, s5, s6, s7⟩
    go_simp
    with_reducible rfl
  rotate_left
  · simp only [Act.put, List.setIfInBounds_toArray, List.set_cons_zero, List.set_cons_succ, i64_w, i32_w]
    rfl
  refine take_ (i := 15) (N := some 20) (v := ?_) (a' := ?_) #[true, true, true, true, true, true, false, true, true, true, true, true, true, false, true, true, true, false, false, true, false, true, false, false, false, false, false] rfl rfl (take_ofW HT_.out HW_.out (by kernel_rfl)) (fun _ _ _ h => h) (Or.inl ⟨by rfl, ?_⟩) hHeld ?_ ?_
  rotate_left
  · rintro w' ⟨s0, s1, s2, s3, s4, s5, s6, s7⟩
    go_simp
    with_reducible rfl
  rotate_left
  · simp only [Act.put, List.setIfInBounds_toArray, List.set_cons_zero, List.set_cons_succ, i64_w, i32_w]
    rfl
  refine take_ (i := 17) (N := some 22) (v := ?_) (a' := ?_) #[true, true, true, true, true, true, false, true, true, true, true, true, true, false, true, true, true, true, false, true, false, true, false, false, false, false, false] rfl rfl (take_ofW HT_.out HW_.out (by kernel_rfl)) (fun _ _ _ h => h) (Or.inl ⟨by rfl, ?_⟩) hHeld ?_ ?_
  rotate_left
  · rintro w' ⟨s0, s1, s2, s3, s4, s5, s6, s7⟩
    go_simp
    with_reducible rfl
  rotate_left
  · simp only [Act.put, List.setIfInBounds_toArray, List.set_cons_zero, List.set_cons_succ, i64_w, i32_w]
    rfl
  refine take_ (i := 20) (N := some 25) (v := ?_) (a' := ?_) #[true, true, true, true, true, true, false, true, true, true, true, true, true, false, true, true, true, true, false, true, true, true, false, false, false, false, false] rfl rfl (take_ofW HT_.out HW_.out (by kernel_rfl)) (fun _ _ _ h => h) (Or.inl ⟨by rfl, ?_⟩) hHeld ?_ ?_
  rotate_left
  · rintro w' ⟨s0, s1, s2, s3, s4, s5, s6, s7⟩
    go_simp
    with_reducible rfl
  rotate_left
  · simp only [Act.put, List.setIfInBounds_toArray, List.set_cons_zero, List.set_cons_succ, i64_w, i32_w]
    rfl
  refine take_ (i := 22) (N := some 27) (v := ?_) (a' := ?_) #[true, true, true, true, true, true, false, true, true, true, true, true, true, false, true, true, true, true, false, true, true, true, true, false, false, false, false] rfl rfl (take_ofW HT_.out HW_.out (by kernel_rfl)) (fun _ _ _ h => h) (Or.inl ⟨by rfl, ?_⟩) hHeld ?_ ?_
  rotate_left
  · rintro w' ⟨s0, s1, s2, s3, s4, s5, s6, s7⟩
    go_simp
    with_reducible rfl
  rotate_left
  · simp only [Act.put, List.setIfInBounds_toArray, List.set_cons_zero, List.set_cons_succ, i64_w, i32_w]
    rfl
  refine one_ (i := 6) (N := some 11) #[true, true, true, true, true, true, true, true, true, true, true, true, true, false, true, true, true, true, false, true, true, true, true, false, false, false, false] rfl rfl (one_of HT_.out (by kernel_rfl)) (by decide) (fun K hK => ?_)
  refine goes_ Tryd.func81 (by kernel_rfl) rfl #[.int .i64 a0_0, .int .i64 a1_0] (by rfl) rfl rfl (by (try simp only [List.map_toArray, List.map_cons, List.map_nil]); first | done | rfl | (simp only [List.length_drop, List.length_take]; rfl)) ?_
  with_reducible refine (cmp_Compare_int.calls a0_0 a1_0 t227 _ A3.out).mono ?_
  rintro e w' ⟨rfl, ⟨nd, rfl⟩⟩
  refine ⟨_, rfl, ?_⟩
  refine hK.out _ _ ⟨(blk_cell BK225.out 0).trans rfl, (blk_cell BK225.out 1).trans rfl, (blk_cell BK225.out 2).trans rfl, (blk_cell BK225.out 3).trans rfl, (blk_cell BK226.out 0).trans rfl, (blk_cell BK226.out 1).trans rfl, (blk_cell BK226.out 2).trans rfl, (blk_cell BK226.out 3).trans rfl⟩ (fun hHeld => ?_)
  clear hK K
  refine norm_ (a' := ?_) ?_ ?_
  rotate_left
  · show Act.put _ (some 11) _ = _
    simp only [Act.put, List.setIfInBounds_toArray, List.set_cons_zero, List.set_cons_succ, i64_w, i32_w]
    rfl
  refine one_ (i := 13) (N := some 18) #[true, true, true, true, true, true, true, true, true, true, true, true, true, true, true, true, true, true, false, true, true, true, true, false, false, false, false] rfl rfl (one_of HT_.out (by kernel_rfl)) (by decide) (fun K hK => ?_)
  refine goes_ Tryd.func81 (by kernel_rfl) rfl #[.int .i64 a0_1, .int .i64 a1_1] (by rfl) rfl rfl (by (try simp only [List.map_toArray, List.map_cons, List.map_nil]); first | done | rfl | (simp only [List.length_drop, List.length_take]; rfl)) ?_
  with_reducible refine (cmp_Compare_int.calls a0_1 a1_1 t228 _ A4.out).mono ?_
  rintro e w' ⟨rfl, ⟨nd, rfl⟩⟩
  refine ⟨_, rfl, ?_⟩
  refine hK.out _ _ ⟨(blk_cell BK225.out 0).trans rfl, (blk_cell BK225.out 1).trans rfl, (blk_cell BK225.out 2).trans rfl, (blk_cell BK225.out 3).trans rfl, (blk_cell BK226.out 0).trans rfl, (blk_cell BK226.out 1).trans rfl, (blk_cell BK226.out 2).trans rfl, (blk_cell BK226.out 3).trans rfl⟩ (fun hHeld => ?_)
  clear hK K
  refine norm_ (a' := ?_) ?_ ?_
  rotate_left
  · show Act.put _ (some 18) _ = _
    simp only [Act.put, List.setIfInBounds_toArray, List.set_cons_zero, List.set_cons_succ, i64_w, i32_w]
    rfl
  refine one_ (i := 18) (N := some 23) #[true, true, true, true, true, true, true, true, true, true, true, true, true, true, true, true, true, true, true, true, true, true, true, false, false, false, false] rfl rfl (one_of HT_.out (by kernel_rfl)) (by decide) (fun K hK => ?_)
  refine goes_ Tryd.func81 (by kernel_rfl) rfl #[.int .i64 a0_2, .int .i64 a1_2] (by rfl) rfl rfl (by (try simp only [List.map_toArray, List.map_cons, List.map_nil]); first | done | rfl | (simp only [List.length_drop, List.length_take]; rfl)) ?_
  with_reducible refine (cmp_Compare_int.calls a0_2 a1_2 t229 _ A5.out).mono ?_
  rintro e w' ⟨rfl, ⟨nd, rfl⟩⟩
  refine ⟨_, rfl, ?_⟩
  refine hK.out _ _ ⟨(blk_cell BK225.out 0).trans rfl, (blk_cell BK225.out 1).trans rfl, (blk_cell BK225.out 2).trans rfl, (blk_cell BK225.out 3).trans rfl, (blk_cell BK226.out 0).trans rfl, (blk_cell BK226.out 1).trans rfl, (blk_cell BK226.out 2).trans rfl, (blk_cell BK226.out 3).trans rfl⟩ (fun hHeld => ?_)
  clear hK K
  refine norm_ (a' := ?_) ?_ ?_
  rotate_left
  · show Act.put _ (some 23) _ = _
    simp only [Act.put, List.setIfInBounds_toArray, List.set_cons_zero, List.set_cons_succ, i64_w, i32_w]
    rfl
  refine one_ (i := 23) (N := some 28) #[true, true, true, true, true, true, true, true, true, true, true, true, true, true, true, true, true, true, true, true, true, true, true, true, false, false, false] rfl rfl (one_of HT_.out (by kernel_rfl)) (by decide) (fun K hK => ?_)
  refine goes_ Tryd.func81 (by kernel_rfl) rfl #[.int .i64 a0_3, .int .i64 a1_3] (by rfl) rfl rfl (by (try simp only [List.map_toArray, List.map_cons, List.map_nil]); first | done | rfl | (simp only [List.length_drop, List.length_take]; rfl)) ?_
  with_reducible refine (cmp_Compare_int.calls a0_3 a1_3 t230 _ A6.out).mono ?_
  rintro e w' ⟨rfl, ⟨nd, rfl⟩⟩
  refine ⟨_, rfl, ?_⟩
  refine hK.out _ _ ⟨(blk_cell BK225.out 0).trans rfl, (blk_cell BK225.out 1).trans rfl, (blk_cell BK225.out 2).trans rfl, (blk_cell BK225.out 3).trans rfl, (blk_cell BK226.out 0).trans rfl, (blk_cell BK226.out 1).trans rfl, (blk_cell BK226.out 2).trans rfl, (blk_cell BK226.out 3).trans rfl⟩ (fun hHeld => ?_)
  clear hK K
  refine norm_ (a' := ?_) ?_ ?_
  rotate_left
  · show Act.put _ (some 28) _ = _
    simp only [Act.put, List.setIfInBounds_toArray, List.set_cons_zero, List.set_cons_succ, i64_w, i32_w]
    rfl
  refine one_ (i := 24) (N := some 29) #[true, true, true, true, true, true, true, true, true, true, true, true, true, true, true, true, true, true, true, true, true, true, true, true, true, false, false] rfl rfl (one_of HT_.out (by kernel_rfl)) (by decide) (fun K hK => ?_)
  refine Kd.R_lit_step (Kd.int .i64) _ 3 ?hg (N := 29) ?hd (xs := ([t227, t228, t229, t230] : List Int)) (inner := [.int .i64 t227, .int .i64 t228, .int .i64 t229, .int .i64 t230]) (ok := fun _ => True) (okp := fun _ => True) ?hr ?hp (fun _ hk => hk) trivial (Below.refl _ _) (Nat.le_refl _) (by simp) ?_; (case hd => rfl); (case hg => rfl); (case hr => first | (go_simp; done) | (go_simp; rfl)); (case hp => exact (Reps.one (show Kd.M (Kd.int .i64) _ _ _ t227 [.int .i64 t227] from rfl) (Reps.one (show Kd.M (Kd.int .i64) _ _ _ t228 [.int .i64 t228] from rfl) (Reps.one (show Kd.M (Kd.int .i64) _ _ _ t229 [.int .i64 t229] from rfl) (Reps.one (show Kd.M (Kd.int .i64) _ _ _ t230 [.int .i64 t230] from rfl) (Reps.none _ _))))))
  intro v232 w11 ho12 hb hg_ hnew_
  clear hg_ hnew_
  (first | rw [← Ny231.out] at ho12 | (simp only [Int.reduceToNat] at ho12; rw [← Ny231.out] at ho12))
  have n0_ := Aside0.mk (Kd.R_lower ho12 (below_size (by repeat (first | (with_reducible first | exact HB.out | apply below_alloc | apply pw_below_drewN | apply below_drew1 | refine below_set ?_ GE225.out | refine below_set ?_ GE226.out) | exact HB.out))))
  have n1_ := Aside0.mk (blk_below (g := gb225) (o := .cells #[.int .i64 a0_0, .int .i64 a0_1, .int .i64 a0_2, .int .i64 a0_3] 44 (0, 0)) (by (with_reducible repeat (first | refine blk_drewN ?_ _ | refine blk_drew ?_ | refine blk_alloc ?_ _)); exact BK225.out) hb)
  have n2_ := Aside0.mk (blk_below (g := gb226) (o := .cells #[.int .i64 a1_0, .int .i64 a1_1, .int .i64 a1_2, .int .i64 a1_3] 44 (0, 0)) (by (with_reducible repeat (first | refine blk_drewN ?_ _ | refine blk_drew ?_ | refine blk_alloc ?_ _)); exact BK226.out) hb)
  have n3_ := Aside0.mk (below_step (by repeat (first | (with_reducible first | exact HB.out | apply below_alloc | apply pw_below_drewN | apply below_drew1 | refine below_set ?_ GE225.out | refine below_set ?_ GE226.out) | exact HB.out)) hb)
  clear BK225
  clear BK226
  clear HB
  have HO233 := n0_
  have BK225 := n1_
  have BK226 := n2_
  have HB := n3_
  clear n0_ n1_ n2_ n3_
  clear hb ho12
  obtain ⟨Ao13, co13, eo13⟩ := Kd.R_slice HO233.out
  (first | subst eo13 | (injection eo13 with f1_ f2_ f3_; have f4_ := f1_.symm; have f5_ := f3_.symm; clear f1_ f2_ f3_; subst f4_; subst f5_))
  refine hK.out _ _ ⟨(blk_cell BK225.out 0).trans rfl, (blk_cell BK225.out 1).trans rfl, (blk_cell BK225.out 2).trans rfl, (blk_cell BK225.out 3).trans rfl, (blk_cell BK226.out 0).trans rfl, (blk_cell BK226.out 1).trans rfl, (blk_cell BK226.out 2).trans rfl, (blk_cell BK226.out 3).trans rfl⟩ (fun hHeld => ?_)
  clear hK K
  refine norm_ (a' := ?_) ?_ ?_
  rotate_left
  · show Act.put _ (some 29) _ = _
    simp only [Act.put, List.setIfInBounds_toArray, List.set_cons_zero, List.set_cons_succ, i64_w, i32_w]
    rfl
  refine one_ (i := 25) (N := some 30) #[true, true, true, true, true, true, true, true, true, true, true, true, true, true, true, true, true, true, true, true, true, true, true, true, true, true, false] rfl rfl (one_of HT_.out (by kernel_rfl)) (by decide) (fun K hK => ?_)
  refine goes_ Tryd.func80 (by kernel_rfl) rfl #[.slice Ao13 y231.length co13] (by rfl) rfl rfl (by (try simp only [List.map_toArray, List.map_cons, List.map_nil]); first | done | rfl | (simp only [List.length_drop, List.length_take]; rfl)) ?_
  with_reducible refine (cmp_Or_int.calls k _ _ y231 t234 _ ?side1 ?side2 A7.out).mono ?_
  (case side1 => repeat (first | exact (Kd.R_reads' HO233.out).2.2 | (with_reducible refine Kd.C_alloc ?_ _) | (with_reducible refine Kd.C_drewN ?_ _) | (with_reducible refine Kd.C_drew ?_)))
  (case side2 => exact (Kd.R_reads' HO233.out).2.1)
  rintro e w' ⟨rfl, ⟨nd, rfl⟩⟩
  refine ⟨_, rfl, ?_⟩
  refine hK.out _ _ ⟨(blk_cell BK225.out 0).trans rfl, (blk_cell BK225.out 1).trans rfl, (blk_cell BK225.out 2).trans rfl, (blk_cell BK225.out 3).trans rfl, (blk_cell BK226.out 0).trans rfl, (blk_cell BK226.out 1).trans rfl, (blk_cell BK226.out 2).trans rfl, (blk_cell BK226.out 3).trans rfl⟩ (fun hHeld => ?_)
  clear hK K
  refine norm_ (a' := ?_) ?_ ?_
  rotate_left
  · show Act.put _ (some 30) _ = _
    simp only [Act.put, List.setIfInBounds_toArray, List.set_cons_zero, List.set_cons_succ, i64_w, i32_w]
    rfl
  refine pure_ (i := 26) (N := some 4) (v := ?_) (a' := ?_) #[true, true, true, true, true, true, true, true, true, true, true, true, true, true, true, true, true, true, true, true, true, true, true, true, true, true, true] rfl rfl (any_of HT_.out (by kernel_rfl)) (fun _ _ _ h => h) (Or.inl ⟨by rfl, ?_⟩) ?_ ?_
  rotate_left
  · intro w'
    go_simp
    with_reducible rfl
  rotate_left
  · simp only [Act.put, List.setIfInBounds_toArray, List.set_cons_zero, List.set_cons_succ, i64_w, i32_w]
    rfl
  refine done_ (done_of HT_.out (by kernel_rfl)) ?_
  try go_wp2
  go_ret
  exact ⟨by first | rfl | (simp [errW_none, errW_some] <;> rfl) | (simp [*, errW_none, errW_some] <;> rfl), by repeat (first | (with_reducible first | exact HB.out | apply below_alloc | apply pw_below_drewN | apply below_drew1 | refine below_set ?_ GE225.out | refine below_set ?_ GE226.out) | exact HB.out)⟩
def span_Span_None.f (a0_0 : Int) (a0_1 : Int) : Option (Bool) := some (decide (a0_1 ≤ a0_0))
set_option maxHeartbeats 8000000 in
set_option maxRecDepth 100000 in
theorem span_Span_None.calls (a0_0 : Int) (a0_1 : Int) (r : Bool) (w : World) (h : span_Span_None.f a0_0 a0_1 = some r) :
    Calls Tryd.prog 66 #[.agg #[.int .i64 a0_0, .int .i64 a0_1]] w fun e w' => e = .returned (.bool r) ∧ Below w.heap.size w w' := by
  have hu42 := Tryd.underlying42
  have HB := Aside0.mk (Below.refl w.heap.size w)
  have H : (some (decide (a0_1 ≤ a0_0))) = some r := h
  clear h
  obtain rfl := Option.some.inj H
  go_enter Tryd.func66, Tryd.ntmps66
  go_wp2_with (first | ((with_reducible refine gate_dst (N := 1) rfl ?_); refine box_event ?hg (N := 1) ?hd (cs := #[.int .i64 a0_0, .int .i64 a0_1]) (t := 42) ?hr ?_; (case hd => rfl); (case hg => rfl); (case hr => first | (go_simp; done) | (go_simp; rfl)); intro gb235 hg w2 hbox hb; have n0_ := Aside0.mk (below_step (by repeat (first | (with_reducible first | exact HB.out | apply below_alloc | apply pw_below_drewN | apply below_drew1) | exact HB.out)) hb); have n1_ := Aside0.mk (hbox); have n2_ := Aside0.mk ((by rw [hg]; exact (below_size (by repeat (first | (with_reducible first | exact HB.out | apply below_alloc | apply pw_below_drewN | apply below_drew1) | exact HB.out))) : w.heap.size ≤ gb235)); have n3_ := Aside0.mk ((by rw [hg]; exact (below_size (by repeat (first | (with_reducible first | exact HB.out | apply below_alloc | apply pw_below_drewN | apply below_drew1) | exact HB.out))) : w.heap.size ≤ gb235)); clear HB; have HB := n0_; have BK235 := n1_; have GW235 := n2_; have GE235 := n3_; clear n0_ n1_ n2_ n3_; clear hb hbox hg; have hcz3_0 : w2.cell? ⟨gb235, 0, none⟩ = some (.int .i64 a0_0) := (blk_cell BK235.out 0).trans rfl; have hcz3_1 : w2.cell? ⟨gb235, 1, none⟩ = some (.int .i64 a0_1) := (blk_cell BK235.out 1).trans rfl; have hfz3_0 := blk_frozen BK235.out 0; have hfz3_1 := blk_frozen BK235.out 1))
  go_ret
  exact ⟨by first | rfl | (simp [errW_none, errW_some] <;> rfl) | (simp [*, errW_none, errW_some] <;> rfl), by repeat (first | (with_reducible first | exact HB.out | apply below_alloc | apply pw_below_drewN | apply below_drew1 | refine below_set ?_ GE235.out) | exact HB.out)⟩
end Go.Proofs.YtaedhehiifkcbaaDoor.PG
namespace Go.Proofs.YtaedhehiifkcbaaDoor.PG
open Go.RowKit Go.Proofs.YtaedhehiifkcbaaDoorW.PrintWords Go.Proofs.YtaedhehiifkcbaaDoorW.PrintLast Go.Proofs.YtaedhehiifkcbaaDoorW.PrintMore
attribute [local go_sem] max2_int min2_int max_two min_two max_three min_three max_four min_four   -- for this text's walks alone
set_option linter.unusedVariables false
set_option linter.unusedSimpArgs false
def hist_Rising.l0 : Nat → List (S44) → List (S44) → Int → Int → Option (Bool)
  | 0, _, _, _, _ => none
  | k + 1, x0, x5, x6, x7 => if x7 < x6 then (if 0 ≤ x7 then (if x7 < (x5.length : Int) then ((span_Span_None.f ((rd_T44 x5 x7).f0.f0) ((rd_T44 x5 x7).f0.f1)).bind fun t238 => (if t238 = true then (some false) else (if x7 > 0 then (if 0 ≤ (wrap64 (x7 - 1)) then (if (wrap64 (x7 - 1)) < (x0.length : Int) then ((hist_Stay_Cmp.f k ((rd_T44 x0 (wrap64 (x7 - 1))).f0.f0) ((rd_T44 x0 (wrap64 (x7 - 1))).f0.f1) ((rd_T44 x0 (wrap64 (x7 - 1))).f1) ((rd_T44 x0 (wrap64 (x7 - 1))).f2) ((rd_T44 x5 x7).f0.f0) ((rd_T44 x5 x7).f0.f1) ((rd_T44 x5 x7).f1) ((rd_T44 x5 x7).f2)).bind fun t240 => (if t240 ≥ 0 then (some false) else (hist_Rising.l0 k x0 x5 x6 (wrap64 (x7 + 1))))) else (none)) else (none)) else (hist_Rising.l0 k x0 x5 x6 (wrap64 (x7 + 1)))))) else (none)) else (none)) else (some true)
def hist_Rising.f (k : Nat) (l0 : List (S44)) : Option (Bool) := hist_Rising.l0 k l0 l0 (l0.length : Int) 0
def hist_Rising.T4 : Bool × List (List Nat × List Nat) := (true, [([], []), ([0], [0]), ([1], [1]), ([2, 2], [2]), ([3], [3]), ([4, 3], [3, 4]), ([5, 3, 3], [3, 5]), ([6], [6]), ([6], [6]), ([8, 6], [6, 8]), ([7, 9, 6], [6, 7, 9]), ([10, 6], [6, 10]), ([6], [6]), ([11, 12, 6, 6], [6, 11, 12]), ([13, 6], [6, 13]), ([6, 14, 3], [3, 6, 14]), ([3, 15], [3, 15])])
def hist_Rising.B4 : List Nat := [0, 1, 3, 7, 15, 31, 63, 127, 127, 383, 1023, 2047, 127, 8191, 16383, 32767, 65535]
theorem hist_Rising.tab4 : rtab .any (opsOf Tryd.f60 4) = hist_Rising.T4 := by kernel_rfl
theorem hist_Rising.bits4 : waitsOk hist_Rising.T4.2 hist_Rising.B4 = true := by kernel_rfl
set_option maxHeartbeats 8000000 in
set_option maxRecDepth 100000 in
theorem hist_Rising.calls (k : Nat) (A0 : Option Addr) (c0 : Nat) (l0 : List (S44)) (r : Bool) (w : World) (hr0 : Kd.C k44 w A0 l0.length l0) (hc0 : l0.length ≤ c0) (h : hist_Rising.f k l0 = some r) :
    Calls Tryd.prog 60 #[.slice A0 l0.length c0] w fun e w' => e = .returned (.bool r) ∧ Below w.heap.size w w' := by
  have hu44 := Tryd.underlying44
  have hu42 := Tryd.underlying42
  have HR0 := Aside0.mk hr0
  have HC0 := Aside0.mk hc0
  clear hr0 hc0
  have HB := Aside0.mk (Below.refl w.heap.size w)
  have H : (hist_Rising.l0 k l0 l0 (l0.length : Int) 0) = some r := h
  clear h
  have H' := Aside0.mk H
  clear H
  go_enter Tryd.func60, Tryd.ntmps60
  go_wp2
  go_loopg [7] k (fun kq v7 w' => ∃ (x7_1 : Int), v7 = .int .i64 x7_1 ∧ Aside0 (hist_Rising.l0 kq l0 l0 (l0.length : Int) x7_1 = some r) ∧ Aside0 (kq ≤ k) ∧ Aside0 (Below w.heap.size w w'))
  case atStart => exact ⟨(0), (by first | rfl | (simp; done) | (simp [*]; done)), H', ⟨Nat.le_refl _⟩, ⟨by repeat (first | (with_reducible first | exact HB.out | apply below_alloc | apply pw_below_drewN | apply below_drew1) | exact HB.out)⟩⟩
  case round =>
    clear H'
    obtain ⟨x7_1, rfl, HA, HK1, HB⟩ := hrel
    cases gk with
    | zero => exact absurd HA.out (by simp [hist_Rising.l0])
    | succ k1 =>
      have H := HA.out
      clear HA
      simp only [hist_Rising.l0] at H
      by_cases c2 : x7_1 < (l0.length : Int)
      · rw [if_pos c2] at H
        have c2b0 : decide (x7_1 < (l0.length : Int)) = true := decide_eq_true c2
        clear c2
        by_cases c3 : 0 ≤ x7_1
        · rw [if_pos c3] at H
          have c3b0 : decide (0 ≤ x7_1) = true := decide_eq_true c3
          clear c3
          by_cases c4 : x7_1 < (l0.length : Int)
          · rw [if_pos c4] at H
            have c4b0 : decide (x7_1 < (l0.length : Int)) = true := decide_eq_true c4
            clear c4
            replace H := Option.bind_eq_some_iff.mp H
            obtain ⟨t238, A50, H⟩ := H
            replace H : (if t238 = true then (some false) else (if x7_1 > 0 then (if 0 ≤ (wrap64 (x7_1 - 1)) then (if (wrap64 (x7_1 - 1)) < (l0.length : Int) then ((hist_Stay_Cmp.f k1 ((rd_T44 l0 (wrap64 (x7_1 - 1))).f0.f0) ((rd_T44 l0 (wrap64 (x7_1 - 1))).f0.f1) ((rd_T44 l0 (wrap64 (x7_1 - 1))).f1) ((rd_T44 l0 (wrap64 (x7_1 - 1))).f2) ((rd_T44 l0 x7_1).f0.f0) ((rd_T44 l0 x7_1).f0.f1) ((rd_T44 l0 x7_1).f1) ((rd_T44 l0 x7_1).f2)).bind fun t240 => (if t240 ≥ 0 then (some false) else (hist_Rising.l0 k1 l0 l0 (l0.length : Int) (wrap64 (x7_1 + 1))))) else (none)) else (none)) else (hist_Rising.l0 k1 l0 l0 (l0.length : Int) (wrap64 (x7_1 + 1))))) = some r := H
            have A5 := Aside0.mk A50
            clear A50
            by_cases c6 : t238 = true
            · subst c6
              have H1 : (some false) = some r := by rw [if_pos rfl] at H; exact H
              clear H
              have H := H1
              clear H1
              obtain rfl := Option.some.inj H
              have p236 : 0 ≤ (x7_1 : Int) := of_decide_eq_true (by first | (with_reducible assumption) | assumption)
              have q236 : x7_1 < (l0.length : Int) := of_decide_eq_true (by first | (with_reducible assumption) | assumption)
              obtain ⟨ad236, e236, hx236_0, hx236_1, hx236_2, hx236_3⟩ := at_T44 HR0.out x7_1 p236 q236
              cases e236
              replace hx236_0 := (HB.out.cell (World.block_lt_of_cell? w _ hx236_0)).trans hx236_0
              replace hx236_1 := (HB.out.cell (World.block_lt_of_cell? w _ hx236_1)).trans hx236_1
              replace hx236_2 := (HB.out.cell (World.block_lt_of_cell? w _ hx236_2)).trans hx236_2
              replace hx236_3 := (HB.out.cell (World.block_lt_of_cell? w _ hx236_3)).trans hx236_3
              replace p236 := eq_true p236
              replace q236 := eq_true q236
              try go_wp2_with (first | ((with_reducible refine gate_dst (N := 4) rfl ?_); refine box_event ?hg (N := 4) ?hd (cs := #[.int .i64 0, .int .i64 0, .int .i64 0, .int .i64 0]) (t := 44) ?hr ?_; (case hd => rfl); (case hg => rfl); (case hr => first | (go_simp; done) | (go_simp; rfl)); intro gb237 hg w7 hbox hb; have n0_ := Aside0.mk (below_step (by repeat (first | (with_reducible first | exact HB.out | apply below_alloc | apply pw_below_drewN | apply below_drew1) | exact HB.out)) hb); have n1_ := Aside0.mk (hbox); have n2_ := Aside0.mk ((by rw [hg]; exact (below_size (by repeat (first | (with_reducible first | exact HB.out | apply below_alloc | apply pw_below_drewN | apply below_drew1) | exact HB.out))) : w.heap.size ≤ gb237)); have n3_ := Aside0.mk ((by rw [hg]; exact (below_size (by repeat (first | (with_reducible first | exact HB.out | apply below_alloc | apply pw_below_drewN | apply below_drew1) | exact HB.out))) : w.heap.size ≤ gb237)); clear HB; have HB := n0_; have BK237 := n1_; have GW237 := n2_; have GE237 := n3_; clear n0_ n1_ n2_ n3_; clear hb hbox hg; have hcz8_0 : w7.cell? ⟨gb237, 0, none⟩ = some (.int .i64 0) := (blk_cell BK237.out 0).trans rfl; have hcz8_1 : w7.cell? ⟨gb237, 1, none⟩ = some (.int .i64 0) := (blk_cell BK237.out 1).trans rfl; have hcz8_2 : w7.cell? ⟨gb237, 2, none⟩ = some (.int .i64 0) := (blk_cell BK237.out 2).trans rfl; have hcz8_3 : w7.cell? ⟨gb237, 3, none⟩ = some (.int .i64 0) := (blk_cell BK237.out 3).trans rfl; have hfz8_0 := blk_frozen BK237.out 0; have hfz8_1 := blk_frozen BK237.out 1; have hfz8_2 := blk_frozen BK237.out 2; have hfz8_3 := blk_frozen BK237.out 3))
              have n0_ : Aside0 (((((w7.setCell ⟨gb237, 0, none⟩ (.int .i64 ((rd_T44 l0 x7_1).f0.f0))).setCell ⟨gb237, 1, none⟩ (.int .i64 ((rd_T44 l0 x7_1).f0.f1))).setCell ⟨gb237, 2, none⟩ (.int .i64 ((rd_T44 l0 x7_1).f1))).setCell ⟨gb237, 3, none⟩ (.int .i64 ((rd_T44 l0 x7_1).f2))).heap[gb237]? = some (.cells #[.int .i64 ((rd_T44 l0 x7_1).f0.f0), .int .i64 ((rd_T44 l0 x7_1).f0.f1), .int .i64 ((rd_T44 l0 x7_1).f1), .int .i64 ((rd_T44 l0 x7_1).f2)] 44 (0, 0))) := ⟨by (with_reducible repeat (first | refine blk_drewN ?_ _ | refine blk_drew ?_ | refine blk_alloc ?_ _)); refine blk_put (cs := #[.int .i64 ((rd_T44 l0 x7_1).f0.f0), .int .i64 ((rd_T44 l0 x7_1).f0.f1), .int .i64 ((rd_T44 l0 x7_1).f1), .int .i64 0]) ?_ 3 _ rfl; (with_reducible repeat (first | refine blk_drewN ?_ _ | refine blk_drew ?_ | refine blk_alloc ?_ _)); refine blk_put (cs := #[.int .i64 ((rd_T44 l0 x7_1).f0.f0), .int .i64 ((rd_T44 l0 x7_1).f0.f1), .int .i64 0, .int .i64 0]) ?_ 2 _ rfl; (with_reducible repeat (first | refine blk_drewN ?_ _ | refine blk_drew ?_ | refine blk_alloc ?_ _)); refine blk_put (cs := #[.int .i64 ((rd_T44 l0 x7_1).f0.f0), .int .i64 0, .int .i64 0, .int .i64 0]) ?_ 1 _ rfl; (with_reducible repeat (first | refine blk_drewN ?_ _ | refine blk_drew ?_ | refine blk_alloc ?_ _)); refine blk_put (cs := #[.int .i64 0, .int .i64 0, .int .i64 0, .int .i64 0]) ?_ 0 _ rfl; (with_reducible repeat (first | refine blk_drewN ?_ _ | refine blk_drew ?_ | refine blk_alloc ?_ _)); exact BK237.out⟩
              have n1_ : Aside0 (Below w.heap.size w ((((w7.setCell ⟨gb237, 0, none⟩ (.int .i64 ((rd_T44 l0 x7_1).f0.f0))).setCell ⟨gb237, 1, none⟩ (.int .i64 ((rd_T44 l0 x7_1).f0.f1))).setCell ⟨gb237, 2, none⟩ (.int .i64 ((rd_T44 l0 x7_1).f1))).setCell ⟨gb237, 3, none⟩ (.int .i64 ((rd_T44 l0 x7_1).f2)))) := ⟨by repeat (first | (with_reducible first | exact HB.out | apply below_alloc | apply pw_below_drewN | apply below_drew1 | refine below_set ?_ GE237.out) | exact HB.out)⟩
              (try clear BK237)
              (try clear HB)
              generalize ((((w7.setCell ⟨gb237, 0, none⟩ (.int .i64 ((rd_T44 l0 x7_1).f0.f0))).setCell ⟨gb237, 1, none⟩ (.int .i64 ((rd_T44 l0 x7_1).f0.f1))).setCell ⟨gb237, 2, none⟩ (.int .i64 ((rd_T44 l0 x7_1).f1))).setCell ⟨gb237, 3, none⟩ (.int .i64 ((rd_T44 l0 x7_1).f2))) = w9 at n0_ n1_ ⊢
              have BK237 := n0_
              have HB := n1_
              clear n0_ n1_
              have n0_ := Aside0.mk (blk_drew BK237.out)
              have n1_ := Aside0.mk (below_drew1 HB.out)
              clear BK237
              clear HB
              have BK237 := n0_
              have HB := n1_
              clear n0_ n1_
              refine start_ (n := 17) (S := fun w' => w'.cell? ⟨gb237, 0, none⟩ = some (.int .i64 ((rd_T44 l0 x7_1).f0.f0)) ∧ w'.cell? ⟨gb237, 1, none⟩ = some (.int .i64 ((rd_T44 l0 x7_1).f0.f1)) ∧ w'.cell? ⟨gb237, 2, none⟩ = some (.int .i64 ((rd_T44 l0 x7_1).f1)) ∧ w'.cell? ⟨gb237, 3, none⟩ = some (.int .i64 ((rd_T44 l0 x7_1).f2))) (ds := []) #[false, false, false, false, false, false, false, false, false, false, false, false, false, false, false, false, false] (by kernel_rfl) rfl rfl ⟨(blk_cell BK237.out 0).trans rfl, (blk_cell BK237.out 1).trans rfl, (blk_cell BK237.out 2).trans rfl, (blk_cell BK237.out 3).trans rfl⟩ (fun hHeld => ?_); refine with_tabW hist_Rising.tab4 hist_Rising.bits4 (fun HT_ HW_ => ?_)
              generalize w9.drew = w10 at BK237 HB hHeld ⊢
              refine pure_ (i := 0) (N := some 12) (v := ?_) (a' := ?_) #[true, false, false, false, false, false, false, false, false, false, false, false, false, false, false, false, false] rfl rfl (any_of HT_.out (by kernel_rfl)) (fun _ _ _ h => h) (Or.inl ⟨by rfl, ?_⟩) ?_ ?_
              rotate_left
              · intro w'
                go_simp
                with_reducible rfl
              rotate_left
              · simp only [Act.put, List.setIfInBounds_toArray, List.set_cons_zero, List.set_cons_succ, i64_w, i32_w]
                rfl
              refine take_ (i := 1) (N := some 13) (v := ?_) (a' := ?_) #[true, true, false, false, false, false, false, false, false, false, false, false, false, false, false, false, false] rfl rfl (take_ofW HT_.out HW_.out (by kernel_rfl)) (fun _ _ _ h => h) (Or.inl ⟨by rfl, ?_⟩) hHeld ?_ ?_
              rotate_left
              · rintro w' ⟨s0, s1, s2, s3⟩
                go_simp
                with_reducible rfl
              rotate_left
              · simp only [Act.put, List.setIfInBounds_toArray, List.set_cons_zero, List.set_cons_succ, i64_w, i32_w]
                rfl
              refine one_ (i := 2) (N := some 14) #[true, true, true, false, false, false, false, false, false, false, false, false, false, false, false, false, false] rfl rfl (one_of HT_.out (by kernel_rfl)) (by decide) (fun K hK => ?_)
              refine goes_ Tryd.func66 (by kernel_rfl) rfl #[.agg #[.int .i64 ((rd_T44 l0 x7_1).f0.f0), .int .i64 ((rd_T44 l0 x7_1).f0.f1)]] (by rfl) rfl rfl (by (try simp only [List.map_toArray, List.map_cons, List.map_nil]); first | done | rfl | (simp only [List.length_drop, List.length_take]; rfl)) ?_
              with_reducible refine (span_Span_None.calls ((rd_T44 l0 x7_1).f0.f0) ((rd_T44 l0 x7_1).f0.f1) true _ A5.out).mono ?_
              rintro e w11 ⟨rfl, hb⟩
              refine ⟨_, rfl, ?_⟩
              have n0_ := Aside0.mk (blk_below (g := gb237) (o := .cells #[.int .i64 ((rd_T44 l0 x7_1).f0.f0), .int .i64 ((rd_T44 l0 x7_1).f0.f1), .int .i64 ((rd_T44 l0 x7_1).f1), .int .i64 ((rd_T44 l0 x7_1).f2)] 44 (0, 0)) (by (with_reducible repeat (first | refine blk_drewN ?_ _ | refine blk_drew ?_ | refine blk_alloc ?_ _)); exact BK237.out) hb)
              have n1_ := Aside0.mk (below_step (by repeat (first | (with_reducible first | exact HB.out | apply below_alloc | apply pw_below_drewN | apply below_drew1 | refine below_set ?_ GE237.out) | exact HB.out)) hb)
              clear BK237
              clear HB
              have BK237 := n0_
              have HB := n1_
              clear n0_ n1_
              (try clear hb)
              (try clear hb2)
              (try clear hk)
              (try clear hi)
              refine hK.out _ _ ⟨(blk_cell BK237.out 0).trans rfl, (blk_cell BK237.out 1).trans rfl, (blk_cell BK237.out 2).trans rfl, (blk_cell BK237.out 3).trans rfl⟩ (fun hHeld => ?_)
              clear hK K
              refine norm_ (a' := ?_) ?_ ?_
              rotate_left
              · show Act.put _ (some 14) _ = _
                simp only [Act.put, List.setIfInBounds_toArray, List.set_cons_zero, List.set_cons_succ, i64_w, i32_w]
                rfl
              refine pure_ (i := 3) (N := some 15) (v := ?_) (a' := ?_) #[true, true, true, true, false, false, false, false, false, false, false, false, false, false, false, false, false] rfl rfl (any_of HT_.out (by kernel_rfl)) (fun _ _ _ h => h) (Or.inl ⟨by rfl, ?_⟩) ?_ ?_
              rotate_left
              · intro w'
                go_simp
                with_reducible rfl
              rotate_left
              · simp only [Act.put, List.setIfInBounds_toArray, List.set_cons_zero, List.set_cons_succ, i64_w, i32_w]
                rfl
              refine pure_ (i := 4) (N := some 16) (v := undef) (a' := ?_) #[true, true, true, true, true, false, false, false, false, false, false, false, false, false, false, false, false] rfl rfl (any_of HT_.out (by kernel_rfl)) (fun _ _ _ h => h) (Or.inr ⟨by rfl, rfl⟩) ?_ ?_
              rotate_left
              · simp only [Act.put, List.setIfInBounds_toArray, List.set_cons_zero, List.set_cons_succ, i64_w, i32_w]
                rfl
              refine pure_ (i := 5) (N := some 17) (v := undef) (a' := ?_) #[true, true, true, true, true, true, false, false, false, false, false, false, false, false, false, false, false] rfl rfl (any_of HT_.out (by kernel_rfl)) (fun _ _ _ h => h) (Or.inr ⟨by rfl, rfl⟩) ?_ ?_
              rotate_left
              · simp only [Act.put, List.setIfInBounds_toArray, List.set_cons_zero, List.set_cons_succ, i64_w, i32_w]
                rfl
              refine pure_ (i := 6) (N := some 18) (v := undef) (a' := ?_) #[true, true, true, true, true, true, true, false, false, false, false, false, false, false, false, false, false] rfl rfl (any_of HT_.out (by kernel_rfl)) (fun _ _ _ h => h) (Or.inr ⟨by rfl, rfl⟩) ?_ ?_
              rotate_left
              · simp only [Act.put, List.setIfInBounds_toArray, List.set_cons_zero, List.set_cons_succ, i64_w, i32_w]
                rfl
              refine pure_ (i := 7) (N := some 19) (v := undef) (a' := ?_) #[true, true, true, true, true, true, true, true, false, false, false, false, false, false, false, false, false] rfl rfl (any_of HT_.out (by kernel_rfl)) (fun _ _ _ h => h) (Or.inr ⟨by rfl, rfl⟩) ?_ ?_
              rotate_left
              · simp only [Act.put, List.setIfInBounds_toArray, List.set_cons_zero, List.set_cons_succ, i64_w, i32_w]
                rfl
              refine pure_ (i := 8) (N := some 20) (v := undef) (a' := ?_) #[true, true, true, true, true, true, true, true, true, false, false, false, false, false, false, false, false] rfl rfl (any_of HT_.out (by kernel_rfl)) (fun _ _ _ h => h) (Or.inr ⟨by rfl, rfl⟩) ?_ ?_
              rotate_left
              · simp only [Act.put, List.setIfInBounds_toArray, List.set_cons_zero, List.set_cons_succ, i64_w, i32_w]
                rfl
              refine pure_ (i := 9) (N := some 21) (v := undef) (a' := ?_) #[true, true, true, true, true, true, true, true, true, true, false, false, false, false, false, false, false] rfl rfl (any_of HT_.out (by kernel_rfl)) (fun _ _ _ h => h) (Or.inr ⟨by rfl, rfl⟩) ?_ ?_
              rotate_left
              · simp only [Act.put, List.setIfInBounds_toArray, List.set_cons_zero, List.set_cons_succ, i64_w, i32_w]
                rfl
              refine pure_ (i := 10) (N := some 22) (v := undef) (a' := ?_) #[true, true, true, true, true, true, true, true, true, true, true, false, false, false, false, false, false] rfl rfl (any_of HT_.out (by kernel_rfl)) (fun _ _ _ h => h) (Or.inr ⟨by rfl, rfl⟩) ?_ ?_
              rotate_left
              · simp only [Act.put, List.setIfInBounds_toArray, List.set_cons_zero, List.set_cons_succ, i64_w, i32_w]
                rfl
              refine pure_ (i := 11) (N := some 23) (v := undef) (a' := ?_) #[true, true, true, true, true, true, true, true, true, true, true, true, false, false, false, false, false] rfl rfl (any_of HT_.out (by kernel_rfl)) (fun _ _ _ h => h) (Or.inr ⟨by rfl, rfl⟩) ?_ ?_
              rotate_left
              · simp only [Act.put, List.setIfInBounds_toArray, List.set_cons_zero, List.set_cons_succ, i64_w, i32_w]
                rfl
              refine pure_ (i := 12) (N := some 24) (v := undef) (a' := ?_) #[true, true, true, true, true, true, true, true, true, true, true, true, true, false, false, false, false] rfl rfl (any_of HT_.out (by kernel_rfl)) (fun _ _ _ h => h) (Or.inr ⟨by rfl, rfl⟩) ?_ ?_
              rotate_left
              · simp only [Act.put, List.setIfInBounds_toArray, List.set_cons_zero, List.set_cons_succ, i64_w, i32_w]
                rfl
              refine pure_ (i := 13) (N := some 25) (v := undef) (a' := ?_) #[true, true, true, true, true, true, true, true, true, true, true, true, true, true, false, false, false] rfl rfl (any_of HT_.out (by kernel_rfl)) (fun _ _ _ h => h) (Or.inr ⟨by rfl, rfl⟩) ?_ ?_
              rotate_left
              · simp only [Act.put, List.setIfInBounds_toArray, List.set_cons_zero, List.set_cons_succ, i64_w, i32_w]
                rfl
              refine pure_ (i := 14) (N := some 26) (v := undef) (a' := ?_) #[true, true, true, true, true, true, true, true, true, true, true, true, true, true, true, false, false] rfl rfl (any_of HT_.out (by kernel_rfl)) (fun _ _ _ h => h) (Or.inr ⟨by rfl, rfl⟩) ?_ ?_
              rotate_left
              · simp only [Act.put, List.setIfInBounds_toArray, List.set_cons_zero, List.set_cons_succ, i64_w, i32_w]
                rfl
              refine pure_ (i := 15) (N := some 27) (v := undef) (a' := ?_) #[true, true, true, true, true, true, true, true, true, true, true, true, true, true, true, true, false] rfl rfl (any_of HT_.out (by kernel_rfl)) (fun _ _ _ h => h) (Or.inr ⟨by rfl, rfl⟩) ?_ ?_
              rotate_left
              · simp only [Act.put, List.setIfInBounds_toArray, List.set_cons_zero, List.set_cons_succ, i64_w, i32_w]
                rfl
              refine pure_ (i := 16) (N := some 28) (v := ?_) (a' := ?_) #[true, true, true, true, true, true, true, true, true, true, true, true, true, true, true, true, true] rfl rfl (any_of HT_.out (by kernel_rfl)) (fun _ _ _ h => h) (Or.inl ⟨by rfl, ?_⟩) ?_ ?_
              rotate_left
              · intro w'
                go_simp
                with_reducible rfl
              rotate_left
              · simp only [Act.put, List.setIfInBounds_toArray, List.set_cons_zero, List.set_cons_succ, i64_w, i32_w]
                rfl
              refine done_ (done_of HT_.out (by kernel_rfl)) ?_
              try go_wp2
              go_ret
              exact ⟨by first | rfl | (simp [errW_none, errW_some] <;> rfl) | (simp [*, errW_none, errW_some] <;> rfl), by repeat (first | (with_reducible first | exact HB.out | apply below_alloc | apply pw_below_drewN | apply below_drew1 | refine below_set ?_ GE237.out) | exact HB.out)⟩
            · replace c6 := Bool.eq_false_iff.mpr c6
              subst c6
              have H1 : (if x7_1 > 0 then (if 0 ≤ (wrap64 (x7_1 - 1)) then (if (wrap64 (x7_1 - 1)) < (l0.length : Int) then ((hist_Stay_Cmp.f k1 ((rd_T44 l0 (wrap64 (x7_1 - 1))).f0.f0) ((rd_T44 l0 (wrap64 (x7_1 - 1))).f0.f1) ((rd_T44 l0 (wrap64 (x7_1 - 1))).f1) ((rd_T44 l0 (wrap64 (x7_1 - 1))).f2) ((rd_T44 l0 x7_1).f0.f0) ((rd_T44 l0 x7_1).f0.f1) ((rd_T44 l0 x7_1).f1) ((rd_T44 l0 x7_1).f2)).bind fun t240 => (if t240 ≥ 0 then (some false) else (hist_Rising.l0 k1 l0 l0 (l0.length : Int) (wrap64 (x7_1 + 1))))) else (none)) else (none)) else (hist_Rising.l0 k1 l0 l0 (l0.length : Int) (wrap64 (x7_1 + 1)))) = some r := by rw [if_neg (show ¬ (false = true) by decide)] at H; exact H
              clear H
              have H := H1
              clear H1
              by_cases c12 : x7_1 > 0
              · rw [if_pos c12] at H
                have c12b0 : decide (0 < x7_1) = true := decide_eq_true c12
                clear c12
                obtain ⟨ji13, hji13⟩ : ∃ j_ : Int, (wrap64 (x7_1 - 1)) = j_ := ⟨_, rfl⟩
                replace H : (if 0 ≤ (ji13) then (if (ji13) < (l0.length : Int) then ((hist_Stay_Cmp.f k1 ((rd_T44 l0 (ji13)).f0.f0) ((rd_T44 l0 (ji13)).f0.f1) ((rd_T44 l0 (ji13)).f1) ((rd_T44 l0 (ji13)).f2) ((rd_T44 l0 x7_1).f0.f0) ((rd_T44 l0 x7_1).f0.f1) ((rd_T44 l0 x7_1).f1) ((rd_T44 l0 x7_1).f2)).bind fun t240 => (if t240 ≥ 0 then (some false) else (hist_Rising.l0 k1 l0 l0 (l0.length : Int) (wrap64 (x7_1 + 1))))) else (none)) else (none)) = some r := by first | (rw [hji13] at H; exact H) | (simp only [hji13] at H ⊢; exact H)
                (try rw [hji13] at A5)
                have hji13w : (IntKind.i64.wrap (x7_1 - 1)) = ji13 := (i64_w _).trans hji13
                by_cases c14 : 0 ≤ (ji13)
                · rw [if_pos c14] at H
                  have c14b0 : decide (0 ≤ (ji13)) = true := decide_eq_true c14
                  clear c14
                  by_cases c15 : (ji13) < (l0.length : Int)
                  · rw [if_pos c15] at H
                    have c15b0 : decide ((ji13) < (l0.length : Int)) = true := decide_eq_true c15
                    clear c15
                    replace H := Option.bind_eq_some_iff.mp H
                    obtain ⟨t240, A160, H⟩ := H
                    replace H : (if t240 ≥ 0 then (some false) else (hist_Rising.l0 k1 l0 l0 (l0.length : Int) (wrap64 (x7_1 + 1)))) = some r := H
                    have A16 := Aside0.mk A160
                    clear A160
                    by_cases c17 : t240 ≥ 0
                    · rw [if_pos c17] at H
                      have c17b0 : decide (0 ≤ t240) = true := decide_eq_true c17
                      clear c17
                      obtain rfl := Option.some.inj H
                      have p236 : 0 ≤ (x7_1 : Int) := of_decide_eq_true (by first | (with_reducible assumption) | assumption)
                      have q236 : x7_1 < (l0.length : Int) := of_decide_eq_true (by first | (with_reducible assumption) | assumption)
                      obtain ⟨ad236, e236, hx236_0, hx236_1, hx236_2, hx236_3⟩ := at_T44 HR0.out x7_1 p236 q236
                      cases e236
                      replace hx236_0 := (HB.out.cell (World.block_lt_of_cell? w _ hx236_0)).trans hx236_0
                      replace hx236_1 := (HB.out.cell (World.block_lt_of_cell? w _ hx236_1)).trans hx236_1
                      replace hx236_2 := (HB.out.cell (World.block_lt_of_cell? w _ hx236_2)).trans hx236_2
                      replace hx236_3 := (HB.out.cell (World.block_lt_of_cell? w _ hx236_3)).trans hx236_3
                      replace p236 := eq_true p236
                      replace q236 := eq_true q236
                      try go_wp2_with (first | ((with_reducible refine gate_dst (N := 4) rfl ?_); refine box_event ?hg (N := 4) ?hd (cs := #[.int .i64 0, .int .i64 0, .int .i64 0, .int .i64 0]) (t := 44) ?hr ?_; (case hd => rfl); (case hg => rfl); (case hr => first | (go_simp; done) | (go_simp; rfl)); intro gb237 hg w18 hbox hb; have n0_ := Aside0.mk (below_step (by repeat (first | (with_reducible first | exact HB.out | apply below_alloc | apply pw_below_drewN | apply below_drew1) | exact HB.out)) hb); have n1_ := Aside0.mk (hbox); have n2_ := Aside0.mk ((by rw [hg]; exact (below_size (by repeat (first | (with_reducible first | exact HB.out | apply below_alloc | apply pw_below_drewN | apply below_drew1) | exact HB.out))) : w.heap.size ≤ gb237)); have n3_ := Aside0.mk ((by rw [hg]; exact (below_size (by repeat (first | (with_reducible first | exact HB.out | apply below_alloc | apply pw_below_drewN | apply below_drew1) | exact HB.out))) : w.heap.size ≤ gb237)); clear HB; have HB := n0_; have BK237 := n1_; have GW237 := n2_; have GE237 := n3_; clear n0_ n1_ n2_ n3_; clear hb hbox hg; have hcz19_0 : w18.cell? ⟨gb237, 0, none⟩ = some (.int .i64 0) := (blk_cell BK237.out 0).trans rfl; have hcz19_1 : w18.cell? ⟨gb237, 1, none⟩ = some (.int .i64 0) := (blk_cell BK237.out 1).trans rfl; have hcz19_2 : w18.cell? ⟨gb237, 2, none⟩ = some (.int .i64 0) := (blk_cell BK237.out 2).trans rfl; have hcz19_3 : w18.cell? ⟨gb237, 3, none⟩ = some (.int .i64 0) := (blk_cell BK237.out 3).trans rfl; have hfz19_0 := blk_frozen BK237.out 0; have hfz19_1 := blk_frozen BK237.out 1; have hfz19_2 := blk_frozen BK237.out 2; have hfz19_3 := blk_frozen BK237.out 3))
                      have n0_ : Aside0 (((((w18.setCell ⟨gb237, 0, none⟩ (.int .i64 ((rd_T44 l0 x7_1).f0.f0))).setCell ⟨gb237, 1, none⟩ (.int .i64 ((rd_T44 l0 x7_1).f0.f1))).setCell ⟨gb237, 2, none⟩ (.int .i64 ((rd_T44 l0 x7_1).f1))).setCell ⟨gb237, 3, none⟩ (.int .i64 ((rd_T44 l0 x7_1).f2))).heap[gb237]? = some (.cells #[.int .i64 ((rd_T44 l0 x7_1).f0.f0), .int .i64 ((rd_T44 l0 x7_1).f0.f1), .int .i64 ((rd_T44 l0 x7_1).f1), .int .i64 ((rd_T44 l0 x7_1).f2)] 44 (0, 0))) := ⟨by (with_reducible repeat (first | refine blk_drewN ?_ _ | refine blk_drew ?_ | refine blk_alloc ?_ _)); refine blk_put (cs := #[.int .i64 ((rd_T44 l0 x7_1).f0.f0), .int .i64 ((rd_T44 l0 x7_1).f0.f1), .int .i64 ((rd_T44 l0 x7_1).f1), .int .i64 0]) ?_ 3 _ rfl; (with_reducible repeat (first | refine blk_drewN ?_ _ | refine blk_drew ?_ | refine blk_alloc ?_ _)); refine blk_put (cs := #[.int .i64 ((rd_T44 l0 x7_1).f0.f0), .int .i64 ((rd_T44 l0 x7_1).f0.f1), .int .i64 0, .int .i64 0]) ?_ 2 _ rfl; (with_reducible repeat (first | refine blk_drewN ?_ _ | refine blk_drew ?_ | refine blk_alloc ?_ _)); refine blk_put (cs := #[.int .i64 ((rd_T44 l0 x7_1).f0.f0), .int .i64 0, .int .i64 0, .int .i64 0]) ?_ 1 _ rfl; (with_reducible repeat (first | refine blk_drewN ?_ _ | refine blk_drew ?_ | refine blk_alloc ?_ _)); refine blk_put (cs := #[.int .i64 0, .int .i64 0, .int .i64 0, .int .i64 0]) ?_ 0 _ rfl; (with_reducible repeat (first | refine blk_drewN ?_ _ | refine blk_drew ?_ | refine blk_alloc ?_ _)); exact BK237.out⟩
                      have n1_ : Aside0 (Below w.heap.size w ((((w18.setCell ⟨gb237, 0, none⟩ (.int .i64 ((rd_T44 l0 x7_1).f0.f0))).setCell ⟨gb237, 1, none⟩ (.int .i64 ((rd_T44 l0 x7_1).f0.f1))).setCell ⟨gb237, 2, none⟩ (.int .i64 ((rd_T44 l0 x7_1).f1))).setCell ⟨gb237, 3, none⟩ (.int .i64 ((rd_T44 l0 x7_1).f2)))) := ⟨by repeat (first | (with_reducible first | exact HB.out | apply below_alloc | apply pw_below_drewN | apply below_drew1 | refine below_set ?_ GE237.out) | exact HB.out)⟩
                      (try clear BK237)
                      (try clear HB)
                      generalize ((((w18.setCell ⟨gb237, 0, none⟩ (.int .i64 ((rd_T44 l0 x7_1).f0.f0))).setCell ⟨gb237, 1, none⟩ (.int .i64 ((rd_T44 l0 x7_1).f0.f1))).setCell ⟨gb237, 2, none⟩ (.int .i64 ((rd_T44 l0 x7_1).f1))).setCell ⟨gb237, 3, none⟩ (.int .i64 ((rd_T44 l0 x7_1).f2))) = w20 at n0_ n1_ ⊢
                      have BK237 := n0_
                      have HB := n1_
                      clear n0_ n1_
                      have n0_ := Aside0.mk (blk_drew BK237.out)
                      have n1_ := Aside0.mk (below_drew1 HB.out)
                      clear BK237
                      clear HB
                      have BK237 := n0_
                      have HB := n1_
                      clear n0_ n1_
                      have p239 : 0 ≤ ((ji13) : Int) := of_decide_eq_true (by first | (with_reducible assumption) | assumption)
                      have q239 : (ji13) < (l0.length : Int) := of_decide_eq_true (by first | (with_reducible assumption) | assumption)
                      obtain ⟨ad239, e239, hx239_0, hx239_1, hx239_2, hx239_3⟩ := at_T44 HR0.out (ji13) p239 q239
                      have hw239_3 := hx239_3
                      have hw239_2 := hx239_2
                      have hw239_1 := hx239_1
                      have hw239_0 := hx239_0
                      obtain rfl : ad236 = ad239 := (by injection e239)
                      replace hx239_0 := (HB.out.cell (World.block_lt_of_cell? w _ hx239_0)).trans hx239_0
                      replace hx239_1 := (HB.out.cell (World.block_lt_of_cell? w _ hx239_1)).trans hx239_1
                      replace hx239_2 := (HB.out.cell (World.block_lt_of_cell? w _ hx239_2)).trans hx239_2
                      replace hx239_3 := (HB.out.cell (World.block_lt_of_cell? w _ hx239_3)).trans hx239_3
                      replace p239 := eq_true p239
                      replace q239 := eq_true q239
                      refine start_ (n := 17) (S := fun w' => w'.cell? ⟨gb237, 0, none⟩ = some (.int .i64 ((rd_T44 l0 x7_1).f0.f0)) ∧ w'.cell? ⟨gb237, 1, none⟩ = some (.int .i64 ((rd_T44 l0 x7_1).f0.f1)) ∧ w'.cell? ⟨gb237, 2, none⟩ = some (.int .i64 ((rd_T44 l0 x7_1).f1)) ∧ w'.cell? ⟨gb237, 3, none⟩ = some (.int .i64 ((rd_T44 l0 x7_1).f2)) ∧ w'.cell? (ad236.add (((ji13)).toNat * 4)) = some (.int .i64 ((rd_T44 l0 (ji13)).f0.f0)) ∧ w'.cell? ⟨(ad236.add (((ji13)).toNat * 4)).block, (ad236.add (((ji13)).toNat * 4)).off + 1, none⟩ = some (.int .i64 ((rd_T44 l0 (ji13)).f0.f1)) ∧ w'.cell? ⟨(ad236.add (((ji13)).toNat * 4)).block, (ad236.add (((ji13)).toNat * 4)).off + 2, none⟩ = some (.int .i64 ((rd_T44 l0 (ji13)).f1)) ∧ w'.cell? ⟨(ad236.add (((ji13)).toNat * 4)).block, (ad236.add (((ji13)).toNat * 4)).off + 3, none⟩ = some (.int .i64 ((rd_T44 l0 (ji13)).f2))) (ds := []) #[false, false, false, false, false, false, false, false, false, false, false, false, false, false, false, false, false] (by kernel_rfl) rfl rfl ⟨(blk_cell BK237.out 0).trans rfl, (blk_cell BK237.out 1).trans rfl, (blk_cell BK237.out 2).trans rfl, (blk_cell BK237.out 3).trans rfl, ((HB.out.cell (World.block_lt_of_cell? w _ hw239_0)).trans hw239_0), ((HB.out.cell (World.block_lt_of_cell? w _ hw239_1)).trans hw239_1), ((HB.out.cell (World.block_lt_of_cell? w _ hw239_2)).trans hw239_2), ((HB.out.cell (World.block_lt_of_cell? w _ hw239_3)).trans hw239_3)⟩ (fun hHeld => ?_); refine with_tabW hist_Rising.tab4 hist_Rising.bits4 (fun HT_ HW_ => ?_)
                      generalize w20.drew = w21 at BK237 HB hx239_0 hx239_1 hx239_2 hx239_3 hHeld ⊢
                      refine pure_ (i := 0) (N := some 12) (v := ?_) (a' := ?_) #[true, false, false, false, false, false, false, false, false, false, false, false, false, false, false, false, false] rfl rfl (any_of HT_.out (by kernel_rfl)) (fun _ _ _ h => h) (Or.inl ⟨by rfl, ?_⟩) ?_ ?_
                      rotate_left
                      · intro w'
                        go_simp
                        with_reducible rfl
                      rotate_left
                      · simp only [Act.put, List.setIfInBounds_toArray, List.set_cons_zero, List.set_cons_succ, i64_w, i32_w]
                        rfl
                      refine take_ (i := 1) (N := some 13) (v := ?_) (a' := ?_) #[true, true, false, false, false, false, false, false, false, false, false, false, false, false, false, false, false] rfl rfl (take_ofW HT_.out HW_.out (by kernel_rfl)) (fun _ _ _ h => h) (Or.inl ⟨by rfl, ?_⟩) hHeld ?_ ?_
                      rotate_left
                      · rintro w' ⟨s0, s1, s2, s3, s4, s5, s6, s7⟩
                        go_simp
                        with_reducible rfl
                      rotate_left
                      · simp only [Act.put, List.setIfInBounds_toArray, List.set_cons_zero, List.set_cons_succ, i64_w, i32_w]
                        rfl
                      refine one_ (i := 2) (N := some 14) #[true, true, true, false, false, false, false, false, false, false, false, false, false, false, false, false, false] rfl rfl (one_of HT_.out (by kernel_rfl)) (by decide) (fun K hK => ?_)
                      refine goes_ Tryd.func66 (by kernel_rfl) rfl #[.agg #[.int .i64 ((rd_T44 l0 x7_1).f0.f0), .int .i64 ((rd_T44 l0 x7_1).f0.f1)]] (by rfl) rfl rfl (by (try simp only [List.map_toArray, List.map_cons, List.map_nil]); first | done | rfl | (simp only [List.length_drop, List.length_take]; rfl)) ?_
                      with_reducible refine (span_Span_None.calls ((rd_T44 l0 x7_1).f0.f0) ((rd_T44 l0 x7_1).f0.f1) false _ A5.out).mono ?_
                      rintro e w22 ⟨rfl, hb⟩
                      refine ⟨_, rfl, ?_⟩
                      have n0_ := Aside0.mk (blk_below (g := gb237) (o := .cells #[.int .i64 ((rd_T44 l0 x7_1).f0.f0), .int .i64 ((rd_T44 l0 x7_1).f0.f1), .int .i64 ((rd_T44 l0 x7_1).f1), .int .i64 ((rd_T44 l0 x7_1).f2)] 44 (0, 0)) (by (with_reducible repeat (first | refine blk_drewN ?_ _ | refine blk_drew ?_ | refine blk_alloc ?_ _)); exact BK237.out) hb)
                      have n1_ := Aside0.mk (below_step (by repeat (first | (with_reducible first | exact HB.out | apply below_alloc | apply pw_below_drewN | apply below_drew1 | refine below_set ?_ GE237.out) | exact HB.out)) hb)
                      clear BK237
                      clear HB
                      have BK237 := n0_
                      have HB := n1_
                      clear n0_ n1_
                      (try clear hb)
                      (try clear hb2)
                      (try clear hk)
                      (try clear hi)
                      refine hK.out _ _ ⟨(blk_cell BK237.out 0).trans rfl, (blk_cell BK237.out 1).trans rfl, (blk_cell BK237.out 2).trans rfl, (blk_cell BK237.out 3).trans rfl, ((HB.out.cell (World.block_lt_of_cell? w _ hw239_0)).trans hw239_0), ((HB.out.cell (World.block_lt_of_cell? w _ hw239_1)).trans hw239_1), ((HB.out.cell (World.block_lt_of_cell? w _ hw239_2)).trans hw239_2), ((HB.out.cell (World.block_lt_of_cell? w _ hw239_3)).trans hw239_3)⟩ (fun hHeld => ?_)
                      clear hK K
                      refine norm_ (a' := ?_) ?_ ?_
                      rotate_left
                      · show Act.put _ (some 14) _ = _
                        simp only [Act.put, List.setIfInBounds_toArray, List.set_cons_zero, List.set_cons_succ, i64_w, i32_w]
                        rfl
                      refine pure_ (i := 3) (N := some 15) (v := ?_) (a' := ?_) #[true, true, true, true, false, false, false, false, false, false, false, false, false, false, false, false, false] rfl rfl (any_of HT_.out (by kernel_rfl)) (fun _ _ _ h => h) (Or.inl ⟨by rfl, ?_⟩) ?_ ?_
                      rotate_left
                      · intro w'
                        go_simp
                        with_reducible rfl
                      rotate_left
                      · simp only [Act.put, List.setIfInBounds_toArray, List.set_cons_zero, List.set_cons_succ, i64_w, i32_w]
                        rfl
                      refine pure_ (i := 4) (N := some 16) (v := ?_) (a' := ?_) #[true, true, true, true, true, false, false, false, false, false, false, false, false, false, false, false, false] rfl rfl (any_of HT_.out (by kernel_rfl)) (fun _ _ _ h => h) (Or.inl ⟨by rfl, ?_⟩) ?_ ?_
                      rotate_left
                      · intro w'
                        go_simp
                        with_reducible rfl
                      rotate_left
                      · simp only [Act.put, List.setIfInBounds_toArray, List.set_cons_zero, List.set_cons_succ, i64_w, i32_w]
                        rfl
                      refine pure_ (i := 5) (N := some 17) (v := ?_) (a' := ?_) #[true, true, true, true, true, true, false, false, false, false, false, false, false, false, false, false, false] rfl rfl (any_of HT_.out (by kernel_rfl)) (fun _ _ _ h => h) (Or.inl ⟨by rfl, ?_⟩) ?_ ?_
                      rotate_left
                      · intro w'
                        go_simp
                        with_reducible rfl
                      rotate_left
                      · simp only [Act.put, List.setIfInBounds_toArray, List.set_cons_zero, List.set_cons_succ, i64_w, i32_w]
                        rfl
                      refine pure_ (i := 6) (N := some 18) (v := ?_) (a' := ?_) #[true, true, true, true, true, true, true, false, false, false, false, false, false, false, false, false, false] rfl rfl (any_of HT_.out (by kernel_rfl)) (fun _ _ _ h => h) (Or.inl ⟨by rfl, ?_⟩) ?_ ?_
                      rotate_left
                      · intro w'
                        go_simp
                        with_reducible rfl
                      rotate_left
                      · simp only [Act.put, List.setIfInBounds_toArray, List.set_cons_zero, List.set_cons_succ, i64_w, i32_w]
                        rfl
                      refine pure_ (i := 7) (N := some 19) (v := ?_) (a' := ?_) #[true, true, true, true, true, true, true, true, false, false, false, false, false, false, false, false, false] rfl rfl (any_of HT_.out (by kernel_rfl)) (fun _ _ _ h => h) (Or.inl ⟨by rfl, ?_⟩) ?_ ?_
                      rotate_left
                      · intro w'
                        go_simp
                        with_reducible rfl
                      rotate_left
                      · simp only [Act.put, List.setIfInBounds_toArray, List.set_cons_zero, List.set_cons_succ, i64_w, i32_w]
                        rfl
                      refine pure_ (i := 8) (N := some 20) (v := ?_) (a' := ?_) #[true, true, true, true, true, true, true, true, true, false, false, false, false, false, false, false, false] rfl rfl (any_of HT_.out (by kernel_rfl)) (fun _ _ _ h => h) (Or.inl ⟨by rfl, ?_⟩) ?_ ?_
                      rotate_left
                      · intro w'
                        go_simp
                        with_reducible rfl
                      rotate_left
                      · simp only [Act.put, List.setIfInBounds_toArray, List.set_cons_zero, List.set_cons_succ, i64_w, i32_w]
                        rfl
                      refine pure_ (i := 9) (N := some 21) (v := ?_) (a' := ?_) #[true, true, true, true, true, true, true, true, true, true, false, false, false, false, false, false, false] rfl rfl (any_of HT_.out (by kernel_rfl)) (fun _ _ _ h => h) (Or.inl ⟨by rfl, ?_⟩) ?_ ?_
                      rotate_left
                      · intro w'
                        go_simp
                        with_reducible rfl
                      rotate_left
                      · simp only [Act.put, List.setIfInBounds_toArray, List.set_cons_zero, List.set_cons_succ, i64_w, i32_w]
                        rfl
                      refine pure_ (i := 10) (N := some 22) (v := ?_) (a' := ?_) #[true, true, true, true, true, true, true, true, true, true, true, false, false, false, false, false, false] rfl rfl (any_of HT_.out (by kernel_rfl)) (fun _ _ _ h => h) (Or.inl ⟨by rfl, ?_⟩) ?_ ?_
                      rotate_left
                      · intro w'
                        go_simp
                        with_reducible rfl
                      rotate_left
                      · simp only [Act.put, List.setIfInBounds_toArray, List.set_cons_zero, List.set_cons_succ, i64_w, i32_w]
                        rfl
                      refine take_ (i := 11) (N := some 23) (v := ?_) (a' := ?_) #[true, true, true, true, true, true, true, true, true, true, true, true, false, false, false, false, false] rfl rfl (take_ofW HT_.out HW_.out (by kernel_rfl)) (fun _ _ _ h => h) (Or.inl ⟨by rfl, ?_⟩) hHeld ?_ ?_
                      rotate_left
                      · rintro w' ⟨s0, s1, s2, s3, s4, s5, s6, s7⟩
                        go_simp
                        with_reducible rfl
                      rotate_left
                      · simp only [Act.put, List.setIfInBounds_toArray, List.set_cons_zero, List.set_cons_succ, i64_w, i32_w]
                        rfl
                      refine take_ (i := 12) (N := some 24) (v := ?_) (a' := ?_) #[true, true, true, true, true, true, true, true, true, true, true, true, true, false, false, false, false] rfl rfl (take_ofW HT_.out HW_.out (by kernel_rfl)) (fun _ _ _ h => h) (Or.inl ⟨by rfl, ?_⟩) hHeld ?_ ?_
                      rotate_left
                      · rintro w' ⟨s0, s1, s2, s3, s4, s5, s6, s7⟩
                        go_simp
                        with_reducible rfl
                      rotate_left
                      · simp only [Act.put, List.setIfInBounds_toArray, List.set_cons_zero, List.set_cons_succ, i64_w, i32_w]
                        rfl
                      refine one_ (i := 13) (N := some 25) #[true, true, true, true, true, true, true, true, true, true, true, true, true, true, false, false, false] rfl rfl (one_of HT_.out (by kernel_rfl)) (by decide) (fun K hK => ?_)
                      refine goes_ Tryd.func62 (by kernel_rfl) rfl #[.agg #[.int .i64 ((rd_T44 l0 (ji13)).f0.f0), .int .i64 ((rd_T44 l0 (ji13)).f0.f1), .int .i64 ((rd_T44 l0 (ji13)).f1), .int .i64 ((rd_T44 l0 (ji13)).f2)], .agg #[.int .i64 ((rd_T44 l0 x7_1).f0.f0), .int .i64 ((rd_T44 l0 x7_1).f0.f1), .int .i64 ((rd_T44 l0 x7_1).f1), .int .i64 ((rd_T44 l0 x7_1).f2)]] (by rfl) rfl rfl (by (try simp only [List.map_toArray, List.map_cons, List.map_nil]); first | done | (simp only [hji13]; rfl) | rfl | (simp only [List.length_drop, List.length_take]; rfl)) ?_
                      with_reducible refine (hist_Stay_Cmp.calls k1 ((rd_T44 l0 (ji13)).f0.f0) ((rd_T44 l0 (ji13)).f0.f1) ((rd_T44 l0 (ji13)).f1) ((rd_T44 l0 (ji13)).f2) ((rd_T44 l0 x7_1).f0.f0) ((rd_T44 l0 x7_1).f0.f1) ((rd_T44 l0 x7_1).f1) ((rd_T44 l0 x7_1).f2) t240 _ A16.out).mono ?_
                      rintro e w23 ⟨rfl, hb⟩
                      refine ⟨_, rfl, ?_⟩
                      have n0_ := Aside0.mk (blk_below (g := gb237) (o := .cells #[.int .i64 ((rd_T44 l0 x7_1).f0.f0), .int .i64 ((rd_T44 l0 x7_1).f0.f1), .int .i64 ((rd_T44 l0 x7_1).f1), .int .i64 ((rd_T44 l0 x7_1).f2)] 44 (0, 0)) (by (with_reducible repeat (first | refine blk_drewN ?_ _ | refine blk_drew ?_ | refine blk_alloc ?_ _)); exact BK237.out) hb)
                      have n1_ := Aside0.mk (below_step (by repeat (first | (with_reducible first | exact HB.out | apply below_alloc | apply pw_below_drewN | apply below_drew1 | refine below_set ?_ GE237.out) | exact HB.out)) hb)
                      clear BK237
                      clear HB
                      have BK237 := n0_
                      have HB := n1_
                      clear n0_ n1_
                      (try clear hb)
                      (try clear hb2)
                      (try clear hk)
                      (try clear hi)
                      refine hK.out _ _ ⟨(blk_cell BK237.out 0).trans rfl, (blk_cell BK237.out 1).trans rfl, (blk_cell BK237.out 2).trans rfl, (blk_cell BK237.out 3).trans rfl, ((HB.out.cell (World.block_lt_of_cell? w _ hw239_0)).trans hw239_0), ((HB.out.cell (World.block_lt_of_cell? w _ hw239_1)).trans hw239_1), ((HB.out.cell (World.block_lt_of_cell? w _ hw239_2)).trans hw239_2), ((HB.out.cell (World.block_lt_of_cell? w _ hw239_3)).trans hw239_3)⟩ (fun hHeld => ?_)
                      clear hK K
                      refine norm_ (a' := ?_) ?_ ?_
                      rotate_left
                      · show Act.put _ (some 25) _ = _
                        simp only [Act.put, List.setIfInBounds_toArray, List.set_cons_zero, List.set_cons_succ, i64_w, i32_w]
                        rfl
                      refine pure_ (i := 14) (N := some 26) (v := ?_) (a' := ?_) #[true, true, true, true, true, true, true, true, true, true, true, true, true, true, true, false, false] rfl rfl (any_of HT_.out (by kernel_rfl)) (fun _ _ _ h => h) (Or.inl ⟨by rfl, ?_⟩) ?_ ?_
                      rotate_left
                      · intro w'
                        go_simp
                        with_reducible rfl
                      rotate_left
                      · simp only [Act.put, List.setIfInBounds_toArray, List.set_cons_zero, List.set_cons_succ, i64_w, i32_w]
                        rfl
                      refine pure_ (i := 15) (N := some 27) (v := ?_) (a' := ?_) #[true, true, true, true, true, true, true, true, true, true, true, true, true, true, true, true, false] rfl rfl (any_of HT_.out (by kernel_rfl)) (fun _ _ _ h => h) (Or.inl ⟨by rfl, ?_⟩) ?_ ?_
                      rotate_left
                      · intro w'
                        go_simp
                        with_reducible rfl
                      rotate_left
                      · simp only [Act.put, List.setIfInBounds_toArray, List.set_cons_zero, List.set_cons_succ, i64_w, i32_w]
                        rfl
                      refine pure_ (i := 16) (N := some 28) (v := ?_) (a' := ?_) #[true, true, true, true, true, true, true, true, true, true, true, true, true, true, true, true, true] rfl rfl (any_of HT_.out (by kernel_rfl)) (fun _ _ _ h => h) (Or.inl ⟨by rfl, ?_⟩) ?_ ?_
                      rotate_left
                      · intro w'
                        go_simp
                        with_reducible rfl
                      rotate_left
                      · simp only [Act.put, List.setIfInBounds_toArray, List.set_cons_zero, List.set_cons_succ, i64_w, i32_w]
                        rfl
                      refine done_ (done_of HT_.out (by kernel_rfl)) ?_
                      try go_wp2
                      go_ret
                      exact ⟨by first | rfl | (simp [errW_none, errW_some] <;> rfl) | (simp only [← hji13]; first | rfl | (simp [errW_none, errW_some] <;> rfl)) | (simp [*, errW_none, errW_some] <;> rfl), by repeat (first | (with_reducible first | exact HB.out | apply below_alloc | apply pw_below_drewN | apply below_drew1 | refine below_set ?_ GE237.out) | exact HB.out)⟩
                    · rw [if_neg c17] at H
                      have c17b0 : decide (0 ≤ t240) = false := decide_eq_false c17
                      clear c17
                      have H' := Aside0.mk H
                      clear H
                      have p236 : 0 ≤ (x7_1 : Int) := of_decide_eq_true (by first | (with_reducible assumption) | assumption)
                      have q236 : x7_1 < (l0.length : Int) := of_decide_eq_true (by first | (with_reducible assumption) | assumption)
                      obtain ⟨ad236, e236, hx236_0, hx236_1, hx236_2, hx236_3⟩ := at_T44 HR0.out x7_1 p236 q236
                      cases e236
                      replace hx236_0 := (HB.out.cell (World.block_lt_of_cell? w _ hx236_0)).trans hx236_0
                      replace hx236_1 := (HB.out.cell (World.block_lt_of_cell? w _ hx236_1)).trans hx236_1
                      replace hx236_2 := (HB.out.cell (World.block_lt_of_cell? w _ hx236_2)).trans hx236_2
                      replace hx236_3 := (HB.out.cell (World.block_lt_of_cell? w _ hx236_3)).trans hx236_3
                      replace p236 := eq_true p236
                      replace q236 := eq_true q236
                      try go_wp2_with (first | ((with_reducible refine gate_dst (N := 4) rfl ?_); refine box_event ?hg (N := 4) ?hd (cs := #[.int .i64 0, .int .i64 0, .int .i64 0, .int .i64 0]) (t := 44) ?hr ?_; (case hd => rfl); (case hg => rfl); (case hr => first | (go_simp; done) | (go_simp; rfl)); intro gb237 hg w24 hbox hb; have n0_ := Aside0.mk (below_step (by repeat (first | (with_reducible first | exact HB.out | apply below_alloc | apply pw_below_drewN | apply below_drew1) | exact HB.out)) hb); have n1_ := Aside0.mk (hbox); have n2_ := Aside0.mk ((by rw [hg]; exact (below_size (by repeat (first | (with_reducible first | exact HB.out | apply below_alloc | apply pw_below_drewN | apply below_drew1) | exact HB.out))) : w.heap.size ≤ gb237)); have n3_ := Aside0.mk ((by rw [hg]; exact (below_size (by repeat (first | (with_reducible first | exact HB.out | apply below_alloc | apply pw_below_drewN | apply below_drew1) | exact HB.out))) : w.heap.size ≤ gb237)); clear HB; have HB := n0_; have BK237 := n1_; have GW237 := n2_; have GE237 := n3_; clear n0_ n1_ n2_ n3_; clear hb hbox hg; have hcz25_0 : w24.cell? ⟨gb237, 0, none⟩ = some (.int .i64 0) := (blk_cell BK237.out 0).trans rfl; have hcz25_1 : w24.cell? ⟨gb237, 1, none⟩ = some (.int .i64 0) := (blk_cell BK237.out 1).trans rfl; have hcz25_2 : w24.cell? ⟨gb237, 2, none⟩ = some (.int .i64 0) := (blk_cell BK237.out 2).trans rfl; have hcz25_3 : w24.cell? ⟨gb237, 3, none⟩ = some (.int .i64 0) := (blk_cell BK237.out 3).trans rfl; have hfz25_0 := blk_frozen BK237.out 0; have hfz25_1 := blk_frozen BK237.out 1; have hfz25_2 := blk_frozen BK237.out 2; have hfz25_3 := blk_frozen BK237.out 3))
                      have n0_ : Aside0 (((((w24.setCell ⟨gb237, 0, none⟩ (.int .i64 ((rd_T44 l0 x7_1).f0.f0))).setCell ⟨gb237, 1, none⟩ (.int .i64 ((rd_T44 l0 x7_1).f0.f1))).setCell ⟨gb237, 2, none⟩ (.int .i64 ((rd_T44 l0 x7_1).f1))).setCell ⟨gb237, 3, none⟩ (.int .i64 ((rd_T44 l0 x7_1).f2))).heap[gb237]? = some (.cells #[.int .i64 ((rd_T44 l0 x7_1).f0.f0), .int .i64 ((rd_T44 l0 x7_1).f0.f1), .int .i64 ((rd_T44 l0 x7_1).f1), .int .i64 ((rd_T44 l0 x7_1).f2)] 44 (0, 0))) := ⟨by (with_reducible repeat (first | refine blk_drewN ?_ _ | refine blk_drew ?_ | refine blk_alloc ?_ _)); refine blk_put (cs := #[.int .i64 ((rd_T44 l0 x7_1).f0.f0), .int .i64 ((rd_T44 l0 x7_1).f0.f1), .int .i64 ((rd_T44 l0 x7_1).f1), .int .i64 0]) ?_ 3 _ rfl; (with_reducible repeat (first | refine blk_drewN ?_ _ | refine blk_drew ?_ | refine blk_alloc ?_ _)); refine blk_put (cs := #[.int .i64 ((rd_T44 l0 x7_1).f0.f0), .int .i64 ((rd_T44 l0 x7_1).f0.f1), .int .i64 0, .int .i64 0]) ?_ 2 _ rfl; (with_reducible repeat (first | refine blk_drewN ?_ _ | refine blk_drew ?_ | refine blk_alloc ?_ _)); refine blk_put (cs := #[.int .i64 ((rd_T44 l0 x7_1).f0.f0), .int .i64 0, .int .i64 0, .int .i64 0]) ?_ 1 _ rfl; (with_reducible repeat (first | refine blk_drewN ?_ _ | refine blk_drew ?_ | refine blk_alloc ?_ _)); refine blk_put (cs := #[.int .i64 0, .int .i64 0, .int .i64 0, .int .i64 0]) ?_ 0 _ rfl; (with_reducible repeat (first | refine blk_drewN ?_ _ | refine blk_drew ?_ | refine blk_alloc ?_ _)); exact BK237.out⟩
                      have n1_ : Aside0 (Below w.heap.size w ((((w24.setCell ⟨gb237, 0, none⟩ (.int .i64 ((rd_T44 l0 x7_1).f0.f0))).setCell ⟨gb237, 1, none⟩ (.int .i64 ((rd_T44 l0 x7_1).f0.f1))).setCell ⟨gb237, 2, none⟩ (.int .i64 ((rd_T44 l0 x7_1).f1))).setCell ⟨gb237, 3, none⟩ (.int .i64 ((rd_T44 l0 x7_1).f2)))) := ⟨by repeat (first | (with_reducible first | exact HB.out | apply below_alloc | apply pw_below_drewN | apply below_drew1 | refine below_set ?_ GE237.out) | exact HB.out)⟩
                      (try clear BK237)
                      (try clear HB)
                      generalize ((((w24.setCell ⟨gb237, 0, none⟩ (.int .i64 ((rd_T44 l0 x7_1).f0.f0))).setCell ⟨gb237, 1, none⟩ (.int .i64 ((rd_T44 l0 x7_1).f0.f1))).setCell ⟨gb237, 2, none⟩ (.int .i64 ((rd_T44 l0 x7_1).f1))).setCell ⟨gb237, 3, none⟩ (.int .i64 ((rd_T44 l0 x7_1).f2))) = w26 at n0_ n1_ ⊢
                      have BK237 := n0_
                      have HB := n1_
                      clear n0_ n1_
                      have n0_ := Aside0.mk (blk_drew BK237.out)
                      have n1_ := Aside0.mk (below_drew1 HB.out)
                      clear BK237
                      clear HB
                      have BK237 := n0_
                      have HB := n1_
                      clear n0_ n1_
                      have p239 : 0 ≤ ((ji13) : Int) := of_decide_eq_true (by first | (with_reducible assumption) | assumption)
                      have q239 : (ji13) < (l0.length : Int) := of_decide_eq_true (by first | (with_reducible assumption) | assumption)
                      obtain ⟨ad239, e239, hx239_0, hx239_1, hx239_2, hx239_3⟩ := at_T44 HR0.out (ji13) p239 q239
                      have hw239_3 := hx239_3
                      have hw239_2 := hx239_2
                      have hw239_1 := hx239_1
                      have hw239_0 := hx239_0
                      obtain rfl : ad236 = ad239 := (by injection e239)
                      replace hx239_0 := (HB.out.cell (World.block_lt_of_cell? w _ hx239_0)).trans hx239_0
                      replace hx239_1 := (HB.out.cell (World.block_lt_of_cell? w _ hx239_1)).trans hx239_1
                      replace hx239_2 := (HB.out.cell (World.block_lt_of_cell? w _ hx239_2)).trans hx239_2
                      replace hx239_3 := (HB.out.cell (World.block_lt_of_cell? w _ hx239_3)).trans hx239_3
                      replace p239 := eq_true p239
                      replace q239 := eq_true q239
                      refine start_ (n := 17) (S := fun w' => w'.cell? ⟨gb237, 0, none⟩ = some (.int .i64 ((rd_T44 l0 x7_1).f0.f0)) ∧ w'.cell? ⟨gb237, 1, none⟩ = some (.int .i64 ((rd_T44 l0 x7_1).f0.f1)) ∧ w'.cell? ⟨gb237, 2, none⟩ = some (.int .i64 ((rd_T44 l0 x7_1).f1)) ∧ w'.cell? ⟨gb237, 3, none⟩ = some (.int .i64 ((rd_T44 l0 x7_1).f2)) ∧ w'.cell? (ad236.add (((ji13)).toNat * 4)) = some (.int .i64 ((rd_T44 l0 (ji13)).f0.f0)) ∧ w'.cell? ⟨(ad236.add (((ji13)).toNat * 4)).block, (ad236.add (((ji13)).toNat * 4)).off + 1, none⟩ = some (.int .i64 ((rd_T44 l0 (ji13)).f0.f1)) ∧ w'.cell? ⟨(ad236.add (((ji13)).toNat * 4)).block, (ad236.add (((ji13)).toNat * 4)).off + 2, none⟩ = some (.int .i64 ((rd_T44 l0 (ji13)).f1)) ∧ w'.cell? ⟨(ad236.add (((ji13)).toNat * 4)).block, (ad236.add (((ji13)).toNat * 4)).off + 3, none⟩ = some (.int .i64 ((rd_T44 l0 (ji13)).f2))) (ds := []) #[false, false, false, false, false, false, false, false, false, false, false, false, false, false, false, false, false] (by kernel_rfl) rfl rfl ⟨(blk_cell BK237.out 0).trans rfl, (blk_cell BK237.out 1).trans rfl, (blk_cell BK237.out 2).trans rfl, (blk_cell BK237.out 3).trans rfl, ((HB.out.cell (World.block_lt_of_cell? w _ hw239_0)).trans hw239_0), ((HB.out.cell (World.block_lt_of_cell? w _ hw239_1)).trans hw239_1), ((HB.out.cell (World.block_lt_of_cell? w _ hw239_2)).trans hw239_2), ((HB.out.cell (World.block_lt_of_cell? w _ hw239_3)).trans hw239_3)⟩ (fun hHeld => ?_); refine with_tabW hist_Rising.tab4 hist_Rising.bits4 (fun HT_ HW_ => ?_)
                      generalize w26.drew = w27 at BK237 HB hx239_0 hx239_1 hx239_2 hx239_3 hHeld ⊢
                      refine pure_ (i := 0) (N := some 12) (v := ?_) (a' := ?_) #[true, false, false, false, false, false, false, false, false, false, false, false, false, false, false, false, false] rfl rfl (any_of HT_.out (by kernel_rfl)) (fun _ _ _ h => h) (Or.inl ⟨by rfl, ?_⟩) ?_ ?_
                      rotate_left
                      · intro w'
                        go_simp
                        with_reducible rfl
                      rotate_left
                      · simp only [Act.put, List.setIfInBounds_toArray, List.set_cons_zero, List.set_cons_succ, i64_w, i32_w]
                        rfl
                      refine take_ (i := 1) (N := some 13) (v := ?_) (a' := ?_) #[true, true, false, false, false, false, false, false, false, false, false, false, false, false, false, false, false] rfl rfl (take_ofW HT_.out HW_.out (by kernel_rfl)) (fun _ _ _ h => h) (Or.inl ⟨by rfl, ?_⟩) hHeld ?_ ?_
                      rotate_left
                      · rintro w' ⟨s0, s1, s2, s3, s4, s5, s6, s7⟩
                        go_simp
                        with_reducible rfl
                      rotate_left
                      · simp only [Act.put, List.setIfInBounds_toArray, List.set_cons_zero, List.set_cons_succ, i64_w, i32_w]
                        rfl
                      refine one_ (i := 2) (N := some 14) #[true, true, true, false, false, false, false, false, false, false, false, false, false, false, false, false, false] rfl rfl (one_of HT_.out (by kernel_rfl)) (by decide) (fun K hK => ?_)
                      refine goes_ Tryd.func66 (by kernel_rfl) rfl #[.agg #[.int .i64 ((rd_T44 l0 x7_1).f0.f0), .int .i64 ((rd_T44 l0 x7_1).f0.f1)]] (by rfl) rfl rfl (by (try simp only [List.map_toArray, List.map_cons, List.map_nil]); first | done | rfl | (simp only [List.length_drop, List.length_take]; rfl)) ?_
                      with_reducible refine (span_Span_None.calls ((rd_T44 l0 x7_1).f0.f0) ((rd_T44 l0 x7_1).f0.f1) false _ A5.out).mono ?_
                      rintro e w28 ⟨rfl, hb⟩
                      refine ⟨_, rfl, ?_⟩
                      have n0_ := Aside0.mk (blk_below (g := gb237) (o := .cells #[.int .i64 ((rd_T44 l0 x7_1).f0.f0), .int .i64 ((rd_T44 l0 x7_1).f0.f1), .int .i64 ((rd_T44 l0 x7_1).f1), .int .i64 ((rd_T44 l0 x7_1).f2)] 44 (0, 0)) (by (with_reducible repeat (first | refine blk_drewN ?_ _ | refine blk_drew ?_ | refine blk_alloc ?_ _)); exact BK237.out) hb)
                      have n1_ := Aside0.mk (below_step (by repeat (first | (with_reducible first | exact HB.out | apply below_alloc | apply pw_below_drewN | apply below_drew1 | refine below_set ?_ GE237.out) | exact HB.out)) hb)
                      clear BK237
                      clear HB
                      have BK237 := n0_
                      have HB := n1_
                      clear n0_ n1_
                      (try clear hb)
                      (try clear hb2)
                      (try clear hk)
                      (try clear hi)
                      refine hK.out _ _ ⟨(blk_cell BK237.out 0).trans rfl, (blk_cell BK237.out 1).trans rfl, (blk_cell BK237.out 2).trans rfl, (blk_cell BK237.out 3).trans rfl, ((HB.out.cell (World.block_lt_of_cell? w _ hw239_0)).trans hw239_0), ((HB.out.cell (World.block_lt_of_cell? w _ hw239_1)).trans hw239_1), ((HB.out.cell (World.block_lt_of_cell? w _ hw239_2)).trans hw239_2), ((HB.out.cell (World.block_lt_of_cell? w _ hw239_3)).trans hw239_3)⟩ (fun hHeld => ?_)
                      clear hK K
                      refine norm_ (a' := ?_) ?_ ?_
                      rotate_left
                      · show Act.put _ (some 14) _ = _
                        simp only [Act.put, List.setIfInBounds_toArray, List.set_cons_zero, List.set_cons_succ, i64_w, i32_w]
                        rfl
                      refine pure_ (i := 3) (N := some 15) (v := ?_) (a' := ?_) #[true, true, true, true, false, false, false, false, false, false, false, false, false, false, false, false, false] rfl rfl (any_of HT_.out (by kernel_rfl)) (fun _ _ _ h => h) (Or.inl ⟨by rfl, ?_⟩) ?_ ?_
                      rotate_left
                      · intro w'
                        go_simp
                        with_reducible rfl
                      rotate_left
                      · simp only [Act.put, List.setIfInBounds_toArray, List.set_cons_zero, List.set_cons_succ, i64_w, i32_w]
                        rfl
                      refine pure_ (i := 4) (N := some 16) (v := ?_) (a' := ?_) #[true, true, true, true, true, false, false, false, false, false, false, false, false, false, false, false, false] rfl rfl (any_of HT_.out (by kernel_rfl)) (fun _ _ _ h => h) (Or.inl ⟨by rfl, ?_⟩) ?_ ?_
                      rotate_left
                      · intro w'
                        go_simp
                        with_reducible rfl
                      rotate_left
                      · simp only [Act.put, List.setIfInBounds_toArray, List.set_cons_zero, List.set_cons_succ, i64_w, i32_w]
                        rfl
                      refine pure_ (i := 5) (N := some 17) (v := ?_) (a' := ?_) #[true, true, true, true, true, true, false, false, false, false, false, false, false, false, false, false, false] rfl rfl (any_of HT_.out (by kernel_rfl)) (fun _ _ _ h => h) (Or.inl ⟨by rfl, ?_⟩) ?_ ?_
                      rotate_left
                      · intro w'
                        go_simp
                        with_reducible rfl
                      rotate_left
                      · simp only [Act.put, List.setIfInBounds_toArray, List.set_cons_zero, List.set_cons_succ, i64_w, i32_w]
                        rfl
                      refine pure_ (i := 6) (N := some 18) (v := ?_) (a' := ?_) #[true, true, true, true, true, true, true, false, false, false, false, false, false, false, false, false, false] rfl rfl (any_of HT_.out (by kernel_rfl)) (fun _ _ _ h => h) (Or.inl ⟨by rfl, ?_⟩) ?_ ?_
                      rotate_left
                      · intro w'
                        go_simp
                        with_reducible rfl
                      rotate_left
                      · simp only [Act.put, List.setIfInBounds_toArray, List.set_cons_zero, List.set_cons_succ, i64_w, i32_w]
                        rfl
                      refine pure_ (i := 7) (N := some 19) (v := ?_) (a' := ?_) #[true, true, true, true, true, true, true, true, false, false, false, false, false, false, false, false, false] rfl rfl (any_of HT_.out (by kernel_rfl)) (fun _ _ _ h => h) (Or.inl ⟨by rfl, ?_⟩) ?_ ?_
                      rotate_left
                      · intro w'
                        go_simp
                        with_reducible rfl
                      rotate_left
                      · simp only [Act.put, List.setIfInBounds_toArray, List.set_cons_zero, List.set_cons_succ, i64_w, i32_w]
                        rfl
                      refine pure_ (i := 8) (N := some 20) (v := ?_) (a' := ?_) #[true, true, true, true, true, true, true, true, true, false, false, false, false, false, false, false, false] rfl rfl (any_of HT_.out (by kernel_rfl)) (fun _ _ _ h => h) (Or.inl ⟨by rfl, ?_⟩) ?_ ?_
                      rotate_left
                      · intro w'
                        go_simp
                        with_reducible rfl
                      rotate_left
                      · simp only [Act.put, List.setIfInBounds_toArray, List.set_cons_zero, List.set_cons_succ, i64_w, i32_w]
                        rfl
                      refine pure_ (i := 9) (N := some 21) (v := ?_) (a' := ?_) #[true, true, true, true, true, true, true, true, true, true, false, false, false, false, false, false, false] rfl rfl (any_of HT_.out (by kernel_rfl)) (fun _ _ _ h => h) (Or.inl ⟨by rfl, ?_⟩) ?_ ?_
                      rotate_left
                      · intro w'
                        go_simp
                        with_reducible rfl
                      rotate_left
                      · simp only [Act.put, List.setIfInBounds_toArray, List.set_cons_zero, List.set_cons_succ, i64_w, i32_w]
                        rfl
                      refine pure_ (i := 10) (N := some 22) (v := ?_) (a' := ?_) #[true, true, true, true, true, true, true, true, true, true, true, false, false, false, false, false, false] rfl rfl (any_of HT_.out (by kernel_rfl)) (fun _ _ _ h => h) (Or.inl ⟨by rfl, ?_⟩) ?_ ?_
                      rotate_left
                      · intro w'
                        go_simp
                        with_reducible rfl
                      rotate_left
                      · simp only [Act.put, List.setIfInBounds_toArray, List.set_cons_zero, List.set_cons_succ, i64_w, i32_w]
                        rfl
                      refine take_ (i := 11) (N := some 23) (v := ?_) (a' := ?_) #[true, true, true, true, true, true, true, true, true, true, true, true, false, false, false, false, false] rfl rfl (take_ofW HT_.out HW_.out (by kernel_rfl)) (fun _ _ _ h => h) (Or.inl ⟨by rfl, ?_⟩) hHeld ?_ ?_
                      rotate_left
                      · rintro w' ⟨s0, s1, s2, s3, s4, s5, s6, s7⟩
                        go_simp
                        with_reducible rfl
                      rotate_left
                      · simp only [Act.put, List.setIfInBounds_toArray, List.set_cons_zero, List.set_cons_succ, i64_w, i32_w]
                        rfl
                      refine take_ (i := 12) (N := some 24) (v := ?_) (a' := ?_) #[true, true, true, true, true, true, true, true, true, true, true, true, true, false, false, false, false] rfl rfl (take_ofW HT_.out HW_.out (by kernel_rfl)) (fun _ _ _ h => h) (Or.inl ⟨by rfl, ?_⟩) hHeld ?_ ?_
                      rotate_left
                      · rintro w' ⟨s0, s1, s2, s3, s4, s5, s6, s7⟩
                        go_simp
                        with_reducible rfl
                      rotate_left
                      · simp only [Act.put, List.setIfInBounds_toArray, List.set_cons_zero, List.set_cons_succ, i64_w, i32_w]
                        rfl
                      refine one_ (i := 13) (N := some 25) #[true, true, true, true, true, true, true, true, true, true, true, true, true, true, false, false, false] rfl rfl (one_of HT_.out (by kernel_rfl)) (by decide) (fun K hK => ?_)
                      refine goes_ Tryd.func62 (by kernel_rfl) rfl #[.agg #[.int .i64 ((rd_T44 l0 (ji13)).f0.f0), .int .i64 ((rd_T44 l0 (ji13)).f0.f1), .int .i64 ((rd_T44 l0 (ji13)).f1), .int .i64 ((rd_T44 l0 (ji13)).f2)], .agg #[.int .i64 ((rd_T44 l0 x7_1).f0.f0), .int .i64 ((rd_T44 l0 x7_1).f0.f1), .int .i64 ((rd_T44 l0 x7_1).f1), .int .i64 ((rd_T44 l0 x7_1).f2)]] (by rfl) rfl rfl (by (try simp only [List.map_toArray, List.map_cons, List.map_nil]); first | done | (simp only [hji13]; rfl) | rfl | (simp only [List.length_drop, List.length_take]; rfl)) ?_
                      with_reducible refine (hist_Stay_Cmp.calls k1 ((rd_T44 l0 (ji13)).f0.f0) ((rd_T44 l0 (ji13)).f0.f1) ((rd_T44 l0 (ji13)).f1) ((rd_T44 l0 (ji13)).f2) ((rd_T44 l0 x7_1).f0.f0) ((rd_T44 l0 x7_1).f0.f1) ((rd_T44 l0 x7_1).f1) ((rd_T44 l0 x7_1).f2) t240 _ A16.out).mono ?_
                      rintro e w29 ⟨rfl, hb⟩
                      refine ⟨_, rfl, ?_⟩
                      have n0_ := Aside0.mk (blk_below (g := gb237) (o := .cells #[.int .i64 ((rd_T44 l0 x7_1).f0.f0), .int .i64 ((rd_T44 l0 x7_1).f0.f1), .int .i64 ((rd_T44 l0 x7_1).f1), .int .i64 ((rd_T44 l0 x7_1).f2)] 44 (0, 0)) (by (with_reducible repeat (first | refine blk_drewN ?_ _ | refine blk_drew ?_ | refine blk_alloc ?_ _)); exact BK237.out) hb)
                      have n1_ := Aside0.mk (below_step (by repeat (first | (with_reducible first | exact HB.out | apply below_alloc | apply pw_below_drewN | apply below_drew1 | refine below_set ?_ GE237.out) | exact HB.out)) hb)
                      clear BK237
                      clear HB
                      have BK237 := n0_
                      have HB := n1_
                      clear n0_ n1_
                      (try clear hb)
                      (try clear hb2)
                      (try clear hk)
                      (try clear hi)
                      refine hK.out _ _ ⟨(blk_cell BK237.out 0).trans rfl, (blk_cell BK237.out 1).trans rfl, (blk_cell BK237.out 2).trans rfl, (blk_cell BK237.out 3).trans rfl, ((HB.out.cell (World.block_lt_of_cell? w _ hw239_0)).trans hw239_0), ((HB.out.cell (World.block_lt_of_cell? w _ hw239_1)).trans hw239_1), ((HB.out.cell (World.block_lt_of_cell? w _ hw239_2)).trans hw239_2), ((HB.out.cell (World.block_lt_of_cell? w _ hw239_3)).trans hw239_3)⟩ (fun hHeld => ?_)
                      clear hK K
                      refine norm_ (a' := ?_) ?_ ?_
                      rotate_left
                      · show Act.put _ (some 25) _ = _
                        simp only [Act.put, List.setIfInBounds_toArray, List.set_cons_zero, List.set_cons_succ, i64_w, i32_w]
                        rfl
                      refine pure_ (i := 14) (N := some 26) (v := ?_) (a' := ?_) #[true, true, true, true, true, true, true, true, true, true, true, true, true, true, true, false, false] rfl rfl (any_of HT_.out (by kernel_rfl)) (fun _ _ _ h => h) (Or.inl ⟨by rfl, ?_⟩) ?_ ?_
                      rotate_left
                      · intro w'
                        go_simp
                        with_reducible rfl
                      rotate_left
                      · simp only [Act.put, List.setIfInBounds_toArray, List.set_cons_zero, List.set_cons_succ, i64_w, i32_w]
                        rfl
                      refine pure_ (i := 15) (N := some 27) (v := ?_) (a' := ?_) #[true, true, true, true, true, true, true, true, true, true, true, true, true, true, true, true, false] rfl rfl (any_of HT_.out (by kernel_rfl)) (fun _ _ _ h => h) (Or.inl ⟨by rfl, ?_⟩) ?_ ?_
                      rotate_left
                      · intro w'
                        go_simp
                        with_reducible rfl
                      rotate_left
                      · simp only [Act.put, List.setIfInBounds_toArray, List.set_cons_zero, List.set_cons_succ, i64_w, i32_w]
                        rfl
                      refine pure_ (i := 16) (N := some 28) (v := ?_) (a' := ?_) #[true, true, true, true, true, true, true, true, true, true, true, true, true, true, true, true, true] rfl rfl (any_of HT_.out (by kernel_rfl)) (fun _ _ _ h => h) (Or.inl ⟨by rfl, ?_⟩) ?_ ?_
                      rotate_left
                      · intro w'
                        go_simp
                        with_reducible rfl
                      rotate_left
                      · simp only [Act.put, List.setIfInBounds_toArray, List.set_cons_zero, List.set_cons_succ, i64_w, i32_w]
                        rfl
                      refine done_ (done_of HT_.out (by kernel_rfl)) ?_
                      try go_wp2
                      go_roundg k1
                      case measure => have := HK1.out; omega
                      case rel => exact ⟨(wrap64 (x7_1 + 1)), (by first | rfl | (simp; done) | (simp [*]; done)), H', ⟨by have := HK1.out; omega⟩, ⟨by repeat (first | (with_reducible first | exact HB.out | apply below_alloc | apply pw_below_drewN | apply below_drew1 | refine below_set ?_ GE237.out) | exact HB.out)⟩⟩
                  · rw [if_neg c15] at H
                    exact absurd H (by simp)
                · rw [if_neg c14] at H
                  exact absurd H (by simp)
              · rw [if_neg c12] at H
                have c12b0 : decide (0 < x7_1) = false := decide_eq_false c12
                clear c12
                have H' := Aside0.mk H
                clear H
                have p236 : 0 ≤ (x7_1 : Int) := of_decide_eq_true (by first | (with_reducible assumption) | assumption)
                have q236 : x7_1 < (l0.length : Int) := of_decide_eq_true (by first | (with_reducible assumption) | assumption)
                obtain ⟨ad236, e236, hx236_0, hx236_1, hx236_2, hx236_3⟩ := at_T44 HR0.out x7_1 p236 q236
                cases e236
                replace hx236_0 := (HB.out.cell (World.block_lt_of_cell? w _ hx236_0)).trans hx236_0
                replace hx236_1 := (HB.out.cell (World.block_lt_of_cell? w _ hx236_1)).trans hx236_1
                replace hx236_2 := (HB.out.cell (World.block_lt_of_cell? w _ hx236_2)).trans hx236_2
                replace hx236_3 := (HB.out.cell (World.block_lt_of_cell? w _ hx236_3)).trans hx236_3
                replace p236 := eq_true p236
                replace q236 := eq_true q236
                try go_wp2_with (first | ((with_reducible refine gate_dst (N := 4) rfl ?_); refine box_event ?hg (N := 4) ?hd (cs := #[.int .i64 0, .int .i64 0, .int .i64 0, .int .i64 0]) (t := 44) ?hr ?_; (case hd => rfl); (case hg => rfl); (case hr => first | (go_simp; done) | (go_simp; rfl)); intro gb237 hg w30 hbox hb; have n0_ := Aside0.mk (below_step (by repeat (first | (with_reducible first | exact HB.out | apply below_alloc | apply pw_below_drewN | apply below_drew1) | exact HB.out)) hb); have n1_ := Aside0.mk (hbox); have n2_ := Aside0.mk ((by rw [hg]; exact (below_size (by repeat (first | (with_reducible first | exact HB.out | apply below_alloc | apply pw_below_drewN | apply below_drew1) | exact HB.out))) : w.heap.size ≤ gb237)); have n3_ := Aside0.mk ((by rw [hg]; exact (below_size (by repeat (first | (with_reducible first | exact HB.out | apply below_alloc | apply pw_below_drewN | apply below_drew1) | exact HB.out))) : w.heap.size ≤ gb237)); clear HB; have HB := n0_; have BK237 := n1_; have GW237 := n2_; have GE237 := n3_; clear n0_ n1_ n2_ n3_; clear hb hbox hg; have hcz31_0 : w30.cell? ⟨gb237, 0, none⟩ = some (.int .i64 0) := (blk_cell BK237.out 0).trans rfl; have hcz31_1 : w30.cell? ⟨gb237, 1, none⟩ = some (.int .i64 0) := (blk_cell BK237.out 1).trans rfl; have hcz31_2 : w30.cell? ⟨gb237, 2, none⟩ = some (.int .i64 0) := (blk_cell BK237.out 2).trans rfl; have hcz31_3 : w30.cell? ⟨gb237, 3, none⟩ = some (.int .i64 0) := (blk_cell BK237.out 3).trans rfl; have hfz31_0 := blk_frozen BK237.out 0; have hfz31_1 := blk_frozen BK237.out 1; have hfz31_2 := blk_frozen BK237.out 2; have hfz31_3 := blk_frozen BK237.out 3))
                have n0_ : Aside0 (((((w30.setCell ⟨gb237, 0, none⟩ (.int .i64 ((rd_T44 l0 x7_1).f0.f0))).setCell ⟨gb237, 1, none⟩ (.int .i64 ((rd_T44 l0 x7_1).f0.f1))).setCell ⟨gb237, 2, none⟩ (.int .i64 ((rd_T44 l0 x7_1).f1))).setCell ⟨gb237, 3, none⟩ (.int .i64 ((rd_T44 l0 x7_1).f2))).heap[gb237]? = some (.cells #[.int .i64 ((rd_T44 l0 x7_1).f0.f0), .int .i64 ((rd_T44 l0 x7_1).f0.f1), .int .i64 ((rd_T44 l0 x7_1).f1), .int .i64 ((rd_T44 l0 x7_1).f2)] 44 (0, 0))) := ⟨by (with_reducible repeat (first | refine blk_drewN ?_ _ | refine blk_drew ?_ | refine blk_alloc ?_ _)); refine blk_put (cs := #[.int .i64 ((rd_T44 l0 x7_1).f0.f0), .int .i64 ((rd_T44 l0 x7_1).f0.f1), .int .i64 ((rd_T44 l0 x7_1).f1), .int .i64 0]) ?_ 3 _ rfl; (with_reducible repeat (first | refine blk_drewN ?_ _ | refine blk_drew ?_ | refine blk_alloc ?_ _)); refine blk_put (cs := #[.int .i64 ((rd_T44 l0 x7_1).f0.f0), .int .i64 ((rd_T44 l0 x7_1).f0.f1), .int .i64 0, .int .i64 0]) ?_ 2 _ rfl; (with_reducible repeat (first | refine blk_drewN ?_ _ | refine blk_drew ?_ | refine blk_alloc ?_ _)); refine blk_put (cs := #[.int .i64 ((rd_T44 l0 x7_1).f0.f0), .int .i64 0, .int .i64 0, .int .i64 0]) ?_ 1 _ rfl; (with_reducible repeat (first | refine blk_drewN ?_ _ | refine blk_drew ?_ | refine blk_alloc ?_ _)); refine blk_put (cs := #[.int .i64 0, .int .i64 0, .int .i64 0, .int .i64 0]) ?_ 0 _ rfl; (with_reducible repeat (first | refine blk_drewN ?_ _ | refine blk_drew ?_ | refine blk_alloc ?_ _)); exact BK237.out⟩
                have n1_ : Aside0 (Below w.heap.size w ((((w30.setCell ⟨gb237, 0, none⟩ (.int .i64 ((rd_T44 l0 x7_1).f0.f0))).setCell ⟨gb237, 1, none⟩ (.int .i64 ((rd_T44 l0 x7_1).f0.f1))).setCell ⟨gb237, 2, none⟩ (.int .i64 ((rd_T44 l0 x7_1).f1))).setCell ⟨gb237, 3, none⟩ (.int .i64 ((rd_T44 l0 x7_1).f2)))) := ⟨by repeat (first | (with_reducible first | exact HB.out | apply below_alloc | apply pw_below_drewN | apply below_drew1 | refine below_set ?_ GE237.out) | exact HB.out)⟩
                (try clear BK237)
                (try clear HB)
                generalize ((((w30.setCell ⟨gb237, 0, none⟩ (.int .i64 ((rd_T44 l0 x7_1).f0.f0))).setCell ⟨gb237, 1, none⟩ (.int .i64 ((rd_T44 l0 x7_1).f0.f1))).setCell ⟨gb237, 2, none⟩ (.int .i64 ((rd_T44 l0 x7_1).f1))).setCell ⟨gb237, 3, none⟩ (.int .i64 ((rd_T44 l0 x7_1).f2))) = w32 at n0_ n1_ ⊢
                have BK237 := n0_
                have HB := n1_
                clear n0_ n1_
                have n0_ := Aside0.mk (blk_drew BK237.out)
                have n1_ := Aside0.mk (below_drew1 HB.out)
                clear BK237
                clear HB
                have BK237 := n0_
                have HB := n1_
                clear n0_ n1_
                refine start_ (n := 17) (S := fun w' => w'.cell? ⟨gb237, 0, none⟩ = some (.int .i64 ((rd_T44 l0 x7_1).f0.f0)) ∧ w'.cell? ⟨gb237, 1, none⟩ = some (.int .i64 ((rd_T44 l0 x7_1).f0.f1)) ∧ w'.cell? ⟨gb237, 2, none⟩ = some (.int .i64 ((rd_T44 l0 x7_1).f1)) ∧ w'.cell? ⟨gb237, 3, none⟩ = some (.int .i64 ((rd_T44 l0 x7_1).f2))) (ds := []) #[false, false, false, false, false, false, false, false, false, false, false, false, false, false, false, false, false] (by kernel_rfl) rfl rfl ⟨(blk_cell BK237.out 0).trans rfl, (blk_cell BK237.out 1).trans rfl, (blk_cell BK237.out 2).trans rfl, (blk_cell BK237.out 3).trans rfl⟩ (fun hHeld => ?_); refine with_tabW hist_Rising.tab4 hist_Rising.bits4 (fun HT_ HW_ => ?_)
                generalize w32.drew = w33 at BK237 HB hHeld ⊢
                refine pure_ (i := 0) (N := some 12) (v := ?_) (a' := ?_) #[true, false, false, false, false, false, false, false, false, false, false, false, false, false, false, false, false] rfl rfl (any_of HT_.out (by kernel_rfl)) (fun _ _ _ h => h) (Or.inl ⟨by rfl, ?_⟩) ?_ ?_
                rotate_left
                · intro w'
                  go_simp
                  with_reducible rfl
                rotate_left
                · simp only [Act.put, List.setIfInBounds_toArray, List.set_cons_zero, List.set_cons_succ, i64_w, i32_w]
                  rfl
                refine take_ (i := 1) (N := some 13) (v := ?_) (a' := ?_) #[true, true, false, false, false, false, false, false, false, false, false, false, false, false, false, false, false] rfl rfl (take_ofW HT_.out HW_.out (by kernel_rfl)) (fun _ _ _ h => h) (Or.inl ⟨by rfl, ?_⟩) hHeld ?_ ?_
                rotate_left
                · rintro w' ⟨s0, s1, s2, s3⟩
                  go_simp
                  with_reducible rfl
                rotate_left
                · simp only [Act.put, List.setIfInBounds_toArray, List.set_cons_zero, List.set_cons_succ, i64_w, i32_w]
                  rfl
                refine one_ (i := 2) (N := some 14) #[true, true, true, false, false, false, false, false, false, false, false, false, false, false, false, false, false] rfl rfl (one_of HT_.out (by kernel_rfl)) (by decide) (fun K hK => ?_)
                refine goes_ Tryd.func66 (by kernel_rfl) rfl #[.agg #[.int .i64 ((rd_T44 l0 x7_1).f0.f0), .int .i64 ((rd_T44 l0 x7_1).f0.f1)]] (by rfl) rfl rfl (by (try simp only [List.map_toArray, List.map_cons, List.map_nil]); first | done | rfl | (simp only [List.length_drop, List.length_take]; rfl)) ?_
                with_reducible refine (span_Span_None.calls ((rd_T44 l0 x7_1).f0.f0) ((rd_T44 l0 x7_1).f0.f1) false _ A5.out).mono ?_
                rintro e w34 ⟨rfl, hb⟩
                refine ⟨_, rfl, ?_⟩
                have n0_ := Aside0.mk (blk_below (g := gb237) (o := .cells #[.int .i64 ((rd_T44 l0 x7_1).f0.f0), .int .i64 ((rd_T44 l0 x7_1).f0.f1), .int .i64 ((rd_T44 l0 x7_1).f1), .int .i64 ((rd_T44 l0 x7_1).f2)] 44 (0, 0)) (by (with_reducible repeat (first | refine blk_drewN ?_ _ | refine blk_drew ?_ | refine blk_alloc ?_ _)); exact BK237.out) hb)
                have n1_ := Aside0.mk (below_step (by repeat (first | (with_reducible first | exact HB.out | apply below_alloc | apply pw_below_drewN | apply below_drew1 | refine below_set ?_ GE237.out) | exact HB.out)) hb)
                clear BK237
                clear HB
                have BK237 := n0_
                have HB := n1_
                clear n0_ n1_
                (try clear hb)
                (try clear hb2)
                (try clear hk)
                (try clear hi)
                refine hK.out _ _ ⟨(blk_cell BK237.out 0).trans rfl, (blk_cell BK237.out 1).trans rfl, (blk_cell BK237.out 2).trans rfl, (blk_cell BK237.out 3).trans rfl⟩ (fun hHeld => ?_)
                clear hK K
                refine norm_ (a' := ?_) ?_ ?_
                rotate_left
                · show Act.put _ (some 14) _ = _
                  simp only [Act.put, List.setIfInBounds_toArray, List.set_cons_zero, List.set_cons_succ, i64_w, i32_w]
                  rfl
                refine pure_ (i := 3) (N := some 15) (v := ?_) (a' := ?_) #[true, true, true, true, false, false, false, false, false, false, false, false, false, false, false, false, false] rfl rfl (any_of HT_.out (by kernel_rfl)) (fun _ _ _ h => h) (Or.inl ⟨by rfl, ?_⟩) ?_ ?_
                rotate_left
                · intro w'
                  go_simp
                  with_reducible rfl
                rotate_left
                · simp only [Act.put, List.setIfInBounds_toArray, List.set_cons_zero, List.set_cons_succ, i64_w, i32_w]
                  rfl
                refine pure_ (i := 4) (N := some 16) (v := ?_) (a' := ?_) #[true, true, true, true, true, false, false, false, false, false, false, false, false, false, false, false, false] rfl rfl (any_of HT_.out (by kernel_rfl)) (fun _ _ _ h => h) (Or.inl ⟨by rfl, ?_⟩) ?_ ?_
                rotate_left
                · intro w'
                  go_simp
                  with_reducible rfl
                rotate_left
                · simp only [Act.put, List.setIfInBounds_toArray, List.set_cons_zero, List.set_cons_succ, i64_w, i32_w]
                  rfl
                refine pure_ (i := 5) (N := some 17) (v := ?_) (a' := ?_) #[true, true, true, true, true, true, false, false, false, false, false, false, false, false, false, false, false] rfl rfl (any_of HT_.out (by kernel_rfl)) (fun _ _ _ h => h) (Or.inl ⟨by rfl, ?_⟩) ?_ ?_
                rotate_left
                · intro w'
                  go_simp
                  with_reducible rfl
                rotate_left
                · simp only [Act.put, List.setIfInBounds_toArray, List.set_cons_zero, List.set_cons_succ, i64_w, i32_w]
                  rfl
                refine pure_ (i := 6) (N := some 18) (v := ?_) (a' := ?_) #[true, true, true, true, true, true, true, false, false, false, false, false, false, false, false, false, false] rfl rfl (any_of HT_.out (by kernel_rfl)) (fun _ _ _ h => h) (Or.inl ⟨by rfl, ?_⟩) ?_ ?_
                rotate_left
                · intro w'
                  go_simp
                  with_reducible rfl
                rotate_left
                · simp only [Act.put, List.setIfInBounds_toArray, List.set_cons_zero, List.set_cons_succ, i64_w, i32_w]
                  rfl
                refine pure_ (i := 7) (N := some 19) (v := undef) (a' := ?_) #[true, true, true, true, true, true, true, true, false, false, false, false, false, false, false, false, false] rfl rfl (any_of HT_.out (by kernel_rfl)) (fun _ _ _ h => h) (Or.inr ⟨by rfl, rfl⟩) ?_ ?_
                rotate_left
                · simp only [Act.put, List.setIfInBounds_toArray, List.set_cons_zero, List.set_cons_succ, i64_w, i32_w]
                  rfl
                refine pure_ (i := 8) (N := some 20) (v := undef) (a' := ?_) #[true, true, true, true, true, true, true, true, true, false, false, false, false, false, false, false, false] rfl rfl (any_of HT_.out (by kernel_rfl)) (fun _ _ _ h => h) (Or.inr ⟨by rfl, rfl⟩) ?_ ?_
                rotate_left
                · simp only [Act.put, List.setIfInBounds_toArray, List.set_cons_zero, List.set_cons_succ, i64_w, i32_w]
                  rfl
                refine pure_ (i := 9) (N := some 21) (v := undef) (a' := ?_) #[true, true, true, true, true, true, true, true, true, true, false, false, false, false, false, false, false] rfl rfl (any_of HT_.out (by kernel_rfl)) (fun _ _ _ h => h) (Or.inr ⟨by rfl, rfl⟩) ?_ ?_
                rotate_left
                · simp only [Act.put, List.setIfInBounds_toArray, List.set_cons_zero, List.set_cons_succ, i64_w, i32_w]
                  rfl
                refine pure_ (i := 10) (N := some 22) (v := undef) (a' := ?_) #[true, true, true, true, true, true, true, true, true, true, true, false, false, false, false, false, false] rfl rfl (any_of HT_.out (by kernel_rfl)) (fun _ _ _ h => h) (Or.inr ⟨by rfl, rfl⟩) ?_ ?_
                rotate_left
                · simp only [Act.put, List.setIfInBounds_toArray, List.set_cons_zero, List.set_cons_succ, i64_w, i32_w]
                  rfl
                refine pure_ (i := 11) (N := some 23) (v := undef) (a' := ?_) #[true, true, true, true, true, true, true, true, true, true, true, true, false, false, false, false, false] rfl rfl (any_of HT_.out (by kernel_rfl)) (fun _ _ _ h => h) (Or.inr ⟨by rfl, rfl⟩) ?_ ?_
                rotate_left
                · simp only [Act.put, List.setIfInBounds_toArray, List.set_cons_zero, List.set_cons_succ, i64_w, i32_w]
                  rfl
                refine pure_ (i := 12) (N := some 24) (v := undef) (a' := ?_) #[true, true, true, true, true, true, true, true, true, true, true, true, true, false, false, false, false] rfl rfl (any_of HT_.out (by kernel_rfl)) (fun _ _ _ h => h) (Or.inr ⟨by rfl, rfl⟩) ?_ ?_
                rotate_left
                · simp only [Act.put, List.setIfInBounds_toArray, List.set_cons_zero, List.set_cons_succ, i64_w, i32_w]
                  rfl
                refine pure_ (i := 13) (N := some 25) (v := undef) (a' := ?_) #[true, true, true, true, true, true, true, true, true, true, true, true, true, true, false, false, false] rfl rfl (any_of HT_.out (by kernel_rfl)) (fun _ _ _ h => h) (Or.inr ⟨by rfl, rfl⟩) ?_ ?_
                rotate_left
                · simp only [Act.put, List.setIfInBounds_toArray, List.set_cons_zero, List.set_cons_succ, i64_w, i32_w]
                  rfl
                refine pure_ (i := 14) (N := some 26) (v := undef) (a' := ?_) #[true, true, true, true, true, true, true, true, true, true, true, true, true, true, true, false, false] rfl rfl (any_of HT_.out (by kernel_rfl)) (fun _ _ _ h => h) (Or.inr ⟨by rfl, rfl⟩) ?_ ?_
                rotate_left
                · simp only [Act.put, List.setIfInBounds_toArray, List.set_cons_zero, List.set_cons_succ, i64_w, i32_w]
                  rfl
                refine pure_ (i := 15) (N := some 27) (v := ?_) (a' := ?_) #[true, true, true, true, true, true, true, true, true, true, true, true, true, true, true, true, false] rfl rfl (any_of HT_.out (by kernel_rfl)) (fun _ _ _ h => h) (Or.inl ⟨by rfl, ?_⟩) ?_ ?_
                rotate_left
                · intro w'
                  go_simp
                  with_reducible rfl
                rotate_left
                · simp only [Act.put, List.setIfInBounds_toArray, List.set_cons_zero, List.set_cons_succ, i64_w, i32_w]
                  rfl
                refine pure_ (i := 16) (N := some 28) (v := ?_) (a' := ?_) #[true, true, true, true, true, true, true, true, true, true, true, true, true, true, true, true, true] rfl rfl (any_of HT_.out (by kernel_rfl)) (fun _ _ _ h => h) (Or.inl ⟨by rfl, ?_⟩) ?_ ?_
                rotate_left
                · intro w'
                  go_simp
                  with_reducible rfl
                rotate_left
                · simp only [Act.put, List.setIfInBounds_toArray, List.set_cons_zero, List.set_cons_succ, i64_w, i32_w]
                  rfl
                refine done_ (done_of HT_.out (by kernel_rfl)) ?_
                try go_wp2
                go_roundg k1
                case measure => have := HK1.out; omega
                case rel => exact ⟨(wrap64 (x7_1 + 1)), (by first | rfl | (simp; done) | (simp [*]; done)), H', ⟨by have := HK1.out; omega⟩, ⟨by repeat (first | (with_reducible first | exact HB.out | apply below_alloc | apply pw_below_drewN | apply below_drew1 | refine below_set ?_ GE237.out) | exact HB.out)⟩⟩
          · rw [if_neg c4] at H
            exact absurd H (by simp)
        · rw [if_neg c3] at H
          exact absurd H (by simp)
      · rw [if_neg c2] at H
        have c2b0 : decide (x7_1 < (l0.length : Int)) = false := decide_eq_false c2
        clear c2
        obtain rfl := Option.some.inj H
        go_wp2
        go_ret
        exact ⟨by first | rfl | (simp [errW_none, errW_some] <;> rfl) | (simp [*, errW_none, errW_some] <;> rfl), by repeat (first | (with_reducible first | exact HB.out | apply below_alloc | apply pw_below_drewN | apply below_drew1) | exact HB.out)⟩
end Go.Proofs.YtaedhehiifkcbaaDoor.PG
namespace Go.Proofs.YtaedhehiifkcbaaDoor.PG
open Go.RowKit Go.Proofs.YtaedhehiifkcbaaDoorW.PrintWords Go.Proofs.YtaedhehiifkcbaaDoorW.PrintLast Go.Proofs.YtaedhehiifkcbaaDoorW.PrintMore
attribute [local go_sem] max2_int min2_int max_two min_two max_three min_three max_four min_four   -- for this text's walks alone
set_option linter.unusedVariables false
set_option linter.unusedSimpArgs false
def page_Of_1.f (a0_0 : Int) (a0_1 : Int) (a0_2 : Int) (a0_3 : Int) : Option (Bool) := (page_Key.f a0_0 a0_1 a0_2 a0_3).bind fun t242 => (some (t242.toList == ([] : List UInt8)))
set_option maxHeartbeats 8000000 in
set_option maxRecDepth 100000 in
theorem page_Of_1.calls (a0_0 : Int) (a0_1 : Int) (a0_2 : Int) (a0_3 : Int) (r : Bool) (w : World) (hG : Aside0 (Good w)) (h : page_Of_1.f a0_0 a0_1 a0_2 a0_3 = some r) :
    Calls Tryd.prog 59 #[.agg #[.int .i64 a0_0, .int .i64 a0_1, .int .i64 a0_2, .int .i64 a0_3]] w fun e w' => e = .returned (.bool r) ∧ Below w.heap.size w w' := by
  have hu44 := Tryd.underlying44
  have HB := Aside0.mk (Below.refl w.heap.size w)
  have H : ((page_Key.f a0_0 a0_1 a0_2 a0_3).bind fun t242 => (some (t242.toList == ([] : List UInt8)))) = some r := h
  clear h
  replace H := Option.bind_eq_some_iff.mp H
  obtain ⟨t242, A20, H⟩ := H
  replace H : (some (t242.toList == ([] : List UInt8))) = some r := H
  have A2 := Aside0.mk A20
  clear A20
  obtain rfl := Option.some.inj H
  go_enter Tryd.func59, Tryd.ntmps59
  go_wp2_with (first | ((with_reducible refine gate_dst (N := 1) rfl ?_); refine box_event ?hg (N := 1) ?hd (cs := #[.int .i64 a0_0, .int .i64 a0_1, .int .i64 a0_2, .int .i64 a0_3]) (t := 44) ?hr ?_; (case hd => rfl); (case hg => rfl); (case hr => first | (go_simp; done) | (go_simp; rfl)); intro gb241 hg w3 hbox hb; have n0_ := Aside0.mk (below_step (by repeat (first | (with_reducible first | exact HB.out | apply below_alloc | apply pw_below_drewN | apply below_drew1) | exact HB.out)) hb); have n1_ := Aside0.mk (hbox); have n2_ := Aside0.mk ((by rw [hg]; exact (below_size (by repeat (first | (with_reducible first | exact HB.out | apply below_alloc | apply pw_below_drewN | apply below_drew1) | exact HB.out))) : w.heap.size ≤ gb241)); have n3_ := Aside0.mk ((by rw [hg]; exact (below_size (by repeat (first | (with_reducible first | exact HB.out | apply below_alloc | apply pw_below_drewN | apply below_drew1) | exact HB.out))) : w.heap.size ≤ gb241)); clear HB; have HB := n0_; have BK241 := n1_; have GW241 := n2_; have GE241 := n3_; clear n0_ n1_ n2_ n3_; clear hb hbox hg; have hcz4_0 : w3.cell? ⟨gb241, 0, none⟩ = some (.int .i64 a0_0) := (blk_cell BK241.out 0).trans rfl; have hcz4_1 : w3.cell? ⟨gb241, 1, none⟩ = some (.int .i64 a0_1) := (blk_cell BK241.out 1).trans rfl; have hcz4_2 : w3.cell? ⟨gb241, 2, none⟩ = some (.int .i64 a0_2) := (blk_cell BK241.out 2).trans rfl; have hcz4_3 : w3.cell? ⟨gb241, 3, none⟩ = some (.int .i64 a0_3) := (blk_cell BK241.out 3).trans rfl; have hfz4_0 := blk_frozen BK241.out 0; have hfz4_1 := blk_frozen BK241.out 1; have hfz4_2 := blk_frozen BK241.out 2; have hfz4_3 := blk_frozen BK241.out 3) | ((with_reducible refine gate_callee (f := 29) rfl ?_); refine goesL_ (some 4) rfl rfl Tryd.func29 (by kernel_rfl) rfl #[.agg #[.int .i64 a0_0, .int .i64 a0_1, .int .i64 a0_2, .int .i64 a0_3]] rfl (by (try simp only [List.map_toArray, List.map_cons, List.map_nil]); first | done | rfl | (simp only [List.length_drop, List.length_take]; rfl)) ?_; (with_reducible refine (page_Key.calls a0_0 a0_1 a0_2 a0_3 t242 _ ?side1 A2.out).mono ?_); (case side1 => exact ⟨Good.below hG.out (by repeat (first | (with_reducible first | exact HB.out | apply below_alloc | apply pw_below_drewN | apply below_drew1 | refine below_set ?_ GE241.out) | exact HB.out))⟩); rintro e w5 ⟨rfl, hb⟩; refine ⟨_, rfl, ?_⟩; have n0_ := Aside0.mk (blk_below (g := gb241) (o := .cells #[.int .i64 a0_0, .int .i64 a0_1, .int .i64 a0_2, .int .i64 a0_3] 44 (0, 0)) (by (with_reducible repeat (first | refine blk_drewN ?_ _ | refine blk_drew ?_ | refine blk_alloc ?_ _)); exact BK241.out) hb); have n1_ := Aside0.mk (below_step (by repeat (first | (with_reducible first | exact HB.out | apply below_alloc | apply pw_below_drewN | apply below_drew1 | refine below_set ?_ GE241.out) | exact HB.out)) hb); clear BK241; clear HB; have BK241 := n0_; have HB := n1_; clear n0_ n1_; (try clear hb); (try clear hb2); (try clear hk); (try clear hi)))
  go_ret
  exact ⟨by first | rfl | (simp [errW_none, errW_some] <;> rfl) | (simp [*, errW_none, errW_some] <;> rfl), by repeat (first | (with_reducible first | exact HB.out | apply below_alloc | apply pw_below_drewN | apply below_drew1 | refine below_set ?_ GE241.out) | exact HB.out)⟩
end Go.Proofs.YtaedhehiifkcbaaDoor.PG
namespace Go.Proofs
open Go.Shelf
def Tryd.laysQcf_ren : Go.Shelf.Ren := ⟨fun | 8 => 61 | 6 => 79 | n => n, fun | 22 => 54 | 23 => 44 | 25 => 89 | 4 => 4 | 3 => 3 | 0 => 0 | n => n, fun | n => n⟩
theorem Tryd.laysQcf : Go.Proofs.SlLaysH0.n8 Tryd.prog Tryd.laysQcf_ren := {
  mixed := by kernel_rfl
  f6 := ⟨Tryd.f79.name, by decide, Tryd.func79.trans (congrArg some (by kernel_rfl))⟩
  f8 := ⟨Tryd.f61.name, by decide, Tryd.func61.trans (congrArg some (by kernel_rfl))⟩
  t0 := Tryd.underlying0
  a0 := Tryd.isAgg0
  z0 := Tryd.sizeOf0
  v0 := Tryd.zeroValue0
  t3 := Tryd.underlying3
  a3 := Tryd.isAgg3
  z3 := Tryd.sizeOf3
  v3 := Tryd.zeroValue3
  t4 := Tryd.underlying4
  a4 := Tryd.isAgg4
  z4 := Tryd.sizeOf4
  v4 := Tryd.zeroValue4
  t22 := Tryd.underlying54
  a22 := Tryd.isAgg54
  z22 := Tryd.sizeOf54
  v22 := Tryd.zeroValue54
  t25 := Tryd.underlying89
  a25 := Tryd.isAgg89
  z25 := Tryd.sizeOf89
  v25 := Tryd.zeroValue89 }
end Go.Proofs
namespace Go.Proofs.YtaedhehiifkcbaaDoor.PG
open Go.RowKit Go.Proofs.YtaedhehiifkcbaaDoorW.PrintWords Go.Proofs.YtaedhehiifkcbaaDoorW.PrintLast Go.Proofs.YtaedhehiifkcbaaDoorW.PrintMore
attribute [local go_sem] max2_int min2_int max_two min_two max_three min_three max_four min_four   -- for this text's walks alone
set_option linter.unusedVariables false
set_option linter.unusedSimpArgs false
def keyless (x : S44) : Option Bool := page_Of_1.f x.f0.f0 x.f0.f1 x.f1 x.f2
def slices_ContainsFunc_at_page_Of_1.f (l0 : List S44) : Option Bool := if ∀ x ∈ l0, (keyless x).isSome = true then some (l0.any fun x => (keyless x).getD false) else none
abbrev KeyS := {x : S44 // (keyless x).isSome = true}
def encK (x : S44) : List Value := [.int .i64 x.f0.f0, .int .i64 x.f0.f1, .int .i64 x.f1, .int .i64 x.f2]
theorem key_pred (w : World) (hG : Good w) : PredBelow Tryd.prog 59 #[] (fun x : KeyS => .agg (encK x.val).toArray) (fun x => (keyless x.val).getD false) w := by
  intro W x hb
  have hx := x.property
  obtain ⟨r, hr⟩ := Option.isSome_iff_exists.1 hx
  refine (page_Of_1.calls x.val.f0.f0 x.val.f0.f1 x.val.f1 x.val.f2 r W ⟨hG.below hb⟩ hr).mono fun e w' ⟨he, hd⟩ => ⟨?_, ?_⟩
  · show e = .returned (.bool ((keyless x.val).getD false))
    rw [show keyless x.val = some r from hr]; exact he
  · exact hb.trans (hd.mono hb.size)
theorem CQ_cells {w : World} {A0 : Option Addr} {l0 : List S44} (hr0 : Kd.C k44 w A0 l0.length l0) (h0 : 0 < l0.length) :
    ∃ b o, A0 = some ⟨b, o, none⟩ ∧ b < w.heap.size ∧ ∀ (j : Nat) x, l0[j]? = some x → ∀ i v, (encK x)[i]? = some v → w.cell? ⟨b, o + j * 4 + i, none⟩ = some v := by
  obtain ⟨_, _, h⟩ := hr0
  obtain ⟨ad, rfl, hc⟩ := h h0
  have cell : ∀ (j : Nat) x, l0[j]? = some x → ∀ i v, (encK x)[i]? = some v → w.cell? (ad.add (j * 4 + i)) = some v := by
    intro j x hj i v hv
    obtain ⟨c, _, hk, hcell⟩ := hc j x hj
    have hk' := k44_open hk
    subst hk'
    exact hcell i v hv
  have h00 := cell 0 _ (List.getElem?_eq_getElem h0) 0 _ rfl
  have hsp : ad.spot = none := by
    have := World.cell?_spot h00
    simpa [Addr.add] using this
  obtain ⟨b, o, sp⟩ := ad
  simp only at hsp
  subst hsp
  refine ⟨b, o, rfl, ?_, fun j x hj i v hv => ?_⟩
  · have := cell_lt h00
    simpa [Addr.add] using this
  · have := cell j x hj i v hv
    unfold Addr.add at this
    rw [Nat.add_assoc]
    split at this
    · rename_i hz; rw [hz]; simpa using this
    · exact this
theorem index_empty (A0 : Option Addr) (c0 : Nat) (w : World) :
    Calls Tryd.prog 79 #[.slice A0 0 c0, .func (.func 59) #[] #[]] w fun e w' => e = .returned (.int .i64 (-1)) ∧ w' = w := by
  go_enter Tryd.func79, Tryd.ntmps79
  go_wp2
  refine wp_loop_rounds 1 ?_
  rw [rounds_succ]
  go_wp2
  go_ret
  exact ⟨rfl, rfl⟩
theorem contains_empty (A0 : Option Addr) (c0 : Nat) (w : World) :
    Calls Tryd.prog 61 #[.slice A0 0 c0, .func (.func 59) #[] #[]] w fun e w' => e = .returned (.bool false) ∧ Below w.heap.size w w' := by
  go_enter Tryd.func61, Tryd.ntmps61
  go_wp2_with fail
  refine (index_empty _ _ _).mono ?_
  rintro e w1 ⟨rfl, rfl⟩
  go_wp2_with fail
  go_ret
  exact ⟨rfl, Below.refl _ _⟩
theorem slices_ContainsFunc_at_page_Of_1.calls (A0 : Option Addr) (c0 : Nat) (l0 : List S44) (r : Bool) (w : World) (hG : Aside0 (Good w)) (hr0 : Kd.C k44 w A0 l0.length l0) (hc0 : l0.length ≤ c0) (h : slices_ContainsFunc_at_page_Of_1.f l0 = some r) :
    Calls Tryd.prog 61 #[.slice A0 l0.length c0, .func (.func 59) #[] #[]] w fun e w' => e = .returned (.bool r) ∧ Below w.heap.size w w' := by
  unfold slices_ContainsFunc_at_page_Of_1.f at h
  split at h
  rotate_left
  · cases h
  rename_i hs
  obtain rfl := Option.some.inj h
  rcases Nat.eq_zero_or_pos l0.length with h0 | h0
  · obtain rfl : l0 = [] := List.eq_nil_of_length_eq_zero h0
    exact contains_empty A0 c0 w
  · obtain ⟨b, o, rfl, hb, hc⟩ := CQ_cells hr0 h0
    have hm : l0.length ≤ 9223372036854775807 := hr0.2.1
    have : Inhabited KeyS := ⟨⟨l0[0], hs _ (List.getElem_mem h0)⟩⟩
    have hz : (l0.attach.map fun s => (⟨s.val, hs s.val s.property⟩ : KeyS)).length = l0.length := by simp
    have h := AnyQ.slices_ContainsFunc Tryd.laysQcf 4 Tryd.isAgg44 Tryd.sizeOf44 (fun x : KeyS => encK x.val) (fun _ => rfl) (fun x => (keyless x.val).getD false) 59 #[] (enters_of Tryd.func59 (by kernel_rfl) rfl) b o l0.length c0 (l0.attach.map fun s => (⟨s.val, hs s.val s.property⟩ : KeyS)) w (key_pred w hG.out) (by omega) hm hb (fun j hj i v hv => by
      have hj' : j < l0.length := by omega
      rw [getElem!_pos _ j hj] at hv
      exact hc j _ (List.getElem?_eq_getElem hj') i v (by simpa using hv))
    refine h.mono fun e w' ⟨he, hb⟩ => ⟨?_, hb⟩
    rw [he, ← hz, List.take_length, List.any_map]
    congr 2
    show (l0.attach.any fun s => (keyless s.val).getD false) = _
    rw [List.any_subtype (g := fun s => (keyless s).getD false) (fun s h => rfl), List.unattach_attach]
end Go.Proofs.YtaedhehiifkcbaaDoor.PG
namespace Go.Proofs.YtaedhehiifkcbaaDoor.PG
open Go.RowKit Go.Proofs.YtaedhehiifkcbaaDoorW.PrintWords Go.Proofs.YtaedhehiifkcbaaDoorW.PrintLast Go.Proofs.YtaedhehiifkcbaaDoorW.PrintMore
attribute [local go_sem] max2_int min2_int max_two min_two max_three min_three max_four min_four   -- for this text's walks alone
set_option linter.unusedVariables false
set_option linter.unusedSimpArgs false
def page_copied.f (l0 : List S44) : Option (List S44) := if l0.length ≤ 1099511627776 then some l0 else none
theorem run_copy_rowK {P : Program} (w : World) (dT sT ty elem : TypeId) (g o dLen dCap k : Nat) (a : Addr) (sLen sCap : Nat) (cur : Array Value) (t : TypeId) (cs : List Value)
    (hu : P.underlying dT = some (.slice elem)) (hs : (P.info? elem).map (·.size) = some k)
    (hg : w.heap[g]? = some (.cells cur t (0, 0))) (hn : cs.length = Nat.min sLen dLen * k)
    (hsrc : ∀ j v, cs[j]? = some v → w.cell? (a.add j) = some v) (hfit : o + cs.length ≤ cur.size) (h1 : ∀ v ∈ cs, v.oneCell' = true) :
    (Builtin.copy_ #[dT, sT] ty #[.slice (some ⟨g, o, none⟩) dLen dCap, .slice (some a) sLen sCap]).run P w =
      .ok (goInt (Nat.min sLen dLen)) (w.setRow g (cur.toList.take o ++ cs ++ cur.toList.drop (o + cs.length)).toArray) := by
  have hl := run_loadCells_list (P := P) w a cs hsrc
  have hst := run_storeCells_at P g o t cs 0 cur w hg (by simpa using hfit) h1
  cases hq : P.info? elem with
  | none => simp [hq] at hs
  | some i =>
    have hi : i.size = k := by simpa [hq] using hs
    simp [Builtin.copy_, run_underlying hu, Builtin.lenOf, Builtin.firstCells, sizeOf, typeInfo, hq, hi, ← hn, hl, hst]
theorem run_copy_zeroK {P : Program} (w : World) (dT sT ty elem : TypeId) (g o dLen dCap : Nat) (a : Option Addr) (sCap : Nat)
    (hu : P.underlying dT = some (.slice elem)) (hs : ((P.info? elem).map (·.size)).isSome = true) :
    (Builtin.copy_ #[dT, sT] ty #[.slice (some ⟨g, o, none⟩) dLen dCap, .slice a 0 sCap]).run P w = .ok (goInt 0) w := by
  cases hq : P.info? elem with
  | none => simp [hq] at hs
  | some i =>
    have hl : ∀ (x : Addr), (loadCells x 0).run P w = .ok #[] w := fun x => by simpa using run_loadCells_list (P := P) w x [] (by simp)
    cases a <;> simp [Builtin.copy_, run_underlying hu, Builtin.lenOf, Builtin.firstCells, sizeOf, typeInfo, hq, storeCells, hl]
theorem run_make_rowN {P : Program} (t e : TypeId) (i : TypeInfo) (z : Value) (ht : P.underlying t = some (.slice e)) (hi : P.info? e = some i) (hz : i.zero = some z)
    (kl kc : IntKind) (n c : Nat) (hnc : n ≤ c) (hbytes : i.bytes * c ≤ 281474976710656) (h63 : c ≤ 9223372036854775807) (w : World) :
    (Instr.makeSlice t (.int kl (n : Int)) (.int kc (c : Int))).run P w = .ok (.slice (some ⟨w.heap.size, 0, none⟩) n c) (w.alloc (.cells (madeCells z.cells (c * i.size)) e)) := by
  have hb : (i.bytes : Int) * (c : Int) ≤ 281474976710656 := by
    have h : ((i.bytes * c : Nat) : Int) ≤ 281474976710656 := by omega
    rwa [Int.natCast_mul] at h
  have hr := run_make (P := P) w t e i z ht hi hz kl kc n c (by omega) (by omega) hb (by omega)
  simp only [Int.toNat_natCast] at hr
  exact hr
theorem flat_get {l : List S44} : ∀ {j : Nat} {v : Value}, (l.flatMap encK)[j]? = some v → ∃ x, l[j / 4]? = some x ∧ (encK x)[j % 4]? = some v := by
  induction l with
  | nil => intro j v h; simp at h
  | cons a t ih =>
    intro j v h
    rw [List.flatMap_cons] at h
    by_cases hj : j < 4
    · rw [List.getElem?_append_left (by exact hj)] at h
      refine ⟨a, ?_, ?_⟩
      · rw [Nat.div_eq_of_lt hj]; rfl
      · rw [Nat.mod_eq_of_lt hj]; exact h
    · rw [List.getElem?_append_right (by show 4 ≤ j; omega)] at h
      obtain ⟨x, h1, h2⟩ := ih (j := j - 4) h
      refine ⟨x, ?_, ?_⟩
      · rw [show j / 4 = (j - 4) / 4 + 1 by omega, List.getElem?_cons_succ]; exact h1
      · rw [show j % 4 = (j - 4) % 4 by omega]; exact h2
theorem flat_len (l : List S44) : (l.flatMap encK).length = l.length * 4 := by
  induction l with
  | nil => rfl
  | cons a t ih => rw [List.flatMap_cons, List.length_append, ih, List.length_cons]; show 4 + _ = _; omega
theorem flat_reps {R : S44 → List Value → Prop} (hR : ∀ x, R x (encK x)) (l : List S44) : Reps R 4 l (l.flatMap encK) := by
  refine ⟨flat_len l, fun j p hj => ?_⟩
  suffices h : ((l.flatMap encK).drop (j * 4)).take 4 = encK p by rw [h]; exact hR p
  induction l generalizing j with
  | nil => simp at hj
  | cons a t ih =>
    cases j with
    | zero =>
      obtain rfl : a = p := by simpa using hj
      rw [List.flatMap_cons, Nat.zero_mul, List.drop_zero]
      exact List.take_left' rfl
    | succ j =>
      rw [List.flatMap_cons, Nat.succ_mul, Nat.add_comm, List.drop_append, List.drop_of_length_le (by show 4 ≤ _; omega), List.nil_append, show 4 + j * 4 - (encK a).length = j * 4 by show 4 + j * 4 - 4 = _; omega]
      exact ih j (by simpa using hj)
theorem alloc_setRow (w : World) (c c' : Array Value) (t : TypeId) : (w.alloc (.cells c t)).setRow w.heap.size c' = w.alloc (.cells c' t) := by
  unfold World.setRow World.alloc
  simp only [World.mk.injEq, true_and, and_true]
  apply Array.ext
  · simp
  · intro i h1 h2
    rw [Array.getElem_modify]
    by_cases hi : i < w.heap.size
    · rw [Array.getElem_push_lt hi, if_neg (by omega), Array.getElem_push_lt hi]
    · obtain rfl : i = w.heap.size := by simp at h2; omega
      simp
set_option maxHeartbeats 2000000 in
set_option maxRecDepth 100000 in
theorem page_copied.calls (A0 : Option Addr) (c0 : Nat) (l0 : List S44) (r : List S44) (w : World) (hr0 : Kd.C k44 w A0 l0.length l0) (hc0 : l0.length ≤ c0) (h : page_copied.f l0 = some r) :
    Calls Tryd.prog 63 #[.slice A0 l0.length c0] w fun e w' => ∃ v0_ : Value, e = .returned (v0_) ∧ Kd.R k44 44 w' w.heap.size (fun _ => True) v0_ r ∧ Below w.heap.size w w' := by
  unfold page_copied.f at h
  split at h
  rotate_left
  · cases h
  rename_i hs
  obtain rfl := Option.some.inj h
  clear h
  obtain ⟨i0, hi0, hz0, hz1, hz2⟩ := info_parts info44
  obtain ⟨mc, hmc, hmk⟩ : ∃ mc : Array Value, mc.size = l0.length * 4 ∧ ∀ W, (Instr.makeSlice 54 (.int .i64 (l0.length : Int)) (.int .i64 (l0.length : Int))).run Tryd.prog W = .ok (.slice (some ⟨W.heap.size, 0, none⟩) l0.length l0.length) (W.alloc (.cells mc 44)) :=
    ⟨madeCells _ (l0.length * i0.size), by rw [hz1]; simp [madeCells], fun W => run_make_rowN (P := Tryd.prog) 54 44 i0 _ Tryd.underlying54 hi0 hz0 .i64 .i64 l0.length l0.length (Nat.le_refl _) (by rw [hz2]; omega) (by omega) W⟩
  have hcp : (Builtin.copy_ #[54, 54] 3 #[.slice (some ⟨w.heap.size, 0, none⟩) l0.length l0.length, .slice A0 l0.length c0]).run Tryd.prog (w.alloc (.cells mc 44)) = .ok (goInt l0.length) (w.alloc (.cells (l0.flatMap encK).toArray 44)) := by
    rcases Nat.eq_zero_or_pos l0.length with h0 | h0
    · obtain rfl : l0 = [] := List.eq_nil_of_length_eq_zero h0
      obtain rfl : mc = #[] := Array.eq_empty_of_size_eq_zero (by simpa using hmc)
      exact run_copy_zeroK _ _ _ _ _ _ _ _ _ _ _ Tryd.underlying54 (by rw [hi0]; rfl)
    · obtain ⟨b, o, rfl, hb, hc⟩ := CQ_cells hr0 h0
      have hr := run_copy_rowK (P := Tryd.prog) (w.alloc (.cells mc 44)) 54 54 3 44 w.heap.size 0 l0.length l0.length 4 ⟨b, o, none⟩ l0.length c0 mc 44 (l0.flatMap encK) Tryd.underlying54 (by rw [hi0]; simp [hz1])
        (by simpa using heap_alloc_new w _) (by rw [flat_len, show Nat.min l0.length l0.length = l0.length from Nat.min_self _]) (fun j v hj => by
          obtain ⟨x, h1, h2⟩ := flat_get hj
          have h3 := hc _ _ h1 _ _ h2
          rw [Nat.add_assoc, show j / 4 * 4 + j % 4 = j by omega] at h3
          have h4 : (⟨b, o, none⟩ : Addr).add j = ⟨b, o + j, none⟩ := by unfold Addr.add; split <;> simp_all
          rw [h4]
          exact ((below_alloc (Below.refl _ _) _).cell (p := ⟨b, o + j, none⟩) hb).trans h3) (by rw [flat_len, hmc]; omega) (fun v hv => by
          obtain ⟨x, _, hx⟩ := List.mem_flatMap.1 hv
          simp only [encK, List.mem_cons, List.mem_nil_iff, or_false] at hx
          rcases hx with rfl | rfl | rfl | rfl <;> rfl)
      rw [hr, show l0.length.min l0.length = l0.length from Nat.min_self _, alloc_setRow]
      congr 4
      rw [List.take_zero, List.nil_append, Nat.zero_add, List.drop_of_length_le (by rw [flat_len, Array.length_toList, hmc]; exact Nat.le_refl _), List.append_nil]
  have HM := Lib.hid hmk
  have HCP := Lib.hid hcp
  clear hr0 hc0 hi0 hz0 hz1 hz2 hmk hmc hcp
  have hlen : l0.length ≤ 9223372036854775807 := by omega
  have HL := Aside0.mk hlen
  clear hlen hs
  go_enter Tryd.func63, Tryd.ntmps63
  have hmk := HM.out
  go_wp2_with (refine Lib.wpList_copy_run _ rfl (.tmp 7) (.tmp 8) 54 54 rfl _ _ rfl rfl HCP.out ?_)
  go_ret
  refine ⟨_, rfl, ⟨fun _ _ => trivial, ?_⟩, (Below.refl _ _).alloc (Nat.le_refl _) _⟩
  exact OwnRow.lit w w.heap.size (flat_reps (fun x => k44_mkM _ _ _ x) l0) (Nat.le_refl _) HL.out
end Go.Proofs.YtaedhehiifkcbaaDoor.PG
namespace Go.Proofs.YtaedhehiifkcbaaDoor.PG
open Go.RowKit Go.Proofs.YtaedhehiifkcbaaDoorW.PrintWords Go.Proofs.YtaedhehiifkcbaaDoorW.PrintLast Go.Proofs.YtaedhehiifkcbaaDoorW.PrintMore
attribute [local go_sem] max2_int min2_int max_two min_two max_three min_three max_four min_four   -- for this text's walks alone
set_option linter.unusedVariables false
set_option linter.unusedSimpArgs false
mutual
def page_Of.j0 : Nat → List (S44) → Int → Bool → Bool → Int → Int → Int → Int → Option ((List (S44)) × ByteArray × Int)
  | 0, _, _, _, _, _, _, _, _ => none
  | k + 1, x0, x2, x10, x34, x249000, x249001, x249002, x249003 => if x34 = true then (some (([] : List (S44)), (⟨#[]⟩ : ByteArray), 140)) else (page_Of.l0 k x0 x2 x10 0 x249000 x249001 x249002 x249003)
def page_Of.j2 : Nat → List (S44) → Int → Int → Option ((List (S44)) × ByteArray × Int)
  | 0, _, _, _ => none
  | k + 1, x0, x2, x12 => if (mn (x0.length : Int) (wrap64 (x12 + (mn (mx x2 1) 100)))) = (x0.length : Int) then (if 0 ≤ x12 then (if x12 ≤ (x0.length : Int) then ((page_copied.f (x0.drop (x12 : Int).toNat)).bind fun t259 => (some (t259, (⟨#[]⟩ : ByteArray), 0))) else (none)) else (none)) else (if 0 ≤ x12 then (if x12 ≤ (mn (x0.length : Int) (wrap64 (x12 + (mn (mx x2 1) 100)))) then (if (mn (x0.length : Int) (wrap64 (x12 + (mn (mx x2 1) 100)))) ≤ (x0.length : Int) then ((page_copied.f ((x0.take ((mn (x0.length : Int) (wrap64 (x12 + (mn (mx x2 1) 100)))) : Int).toNat).drop (x12 : Int).toNat)).bind fun t266 => (if 0 ≤ (wrap64 ((mn (x0.length : Int) (wrap64 (x12 + (mn (mx x2 1) 100)))) - 1)) then (if (wrap64 ((mn (x0.length : Int) (wrap64 (x12 + (mn (mx x2 1) 100)))) - 1)) < (x0.length : Int) then ((page_Key.f ((rd_T44 x0 (wrap64 ((mn (x0.length : Int) (wrap64 (x12 + (mn (mx x2 1) 100)))) - 1))).f0.f0) ((rd_T44 x0 (wrap64 ((mn (x0.length : Int) (wrap64 (x12 + (mn (mx x2 1) 100)))) - 1))).f0.f1) ((rd_T44 x0 (wrap64 ((mn (x0.length : Int) (wrap64 (x12 + (mn (mx x2 1) 100)))) - 1))).f1) ((rd_T44 x0 (wrap64 ((mn (x0.length : Int) (wrap64 (x12 + (mn (mx x2 1) 100)))) - 1))).f2)).bind fun t270 => (some (t266, t270, 0))) else (none)) else (none))) else (none)) else (none)) else (none))
def page_Of.l0 : Nat → List (S44) → Int → Bool → Int → Int → Int → Int → Int → Option ((List (S44)) × ByteArray × Int)
  | 0, _, _, _, _, _, _, _, _ => none
  | k + 1, x0, x2, x10, x12, x249000, x249001, x249002, x249003 => if x12 < (x0.length : Int) then (if x10 = true then (if 0 ≤ x12 then ((hist_Stay_Cmp.f k ((rd_T44 x0 x12).f0.f0) ((rd_T44 x0 x12).f0.f1) ((rd_T44 x0 x12).f1) ((rd_T44 x0 x12).f2) x249000 x249001 x249002 x249003).bind fun t254 => (if t254 ≤ 0 then (page_Of.l0 k x0 x2 x10 (wrap64 (x12 + 1)) x249000 x249001 x249002 x249003) else (page_Of.j2 k x0 x2 x12))) else (none)) else (page_Of.j2 k x0 x2 x12)) else (page_Of.j2 k x0 x2 x12)
end
def page_Of.f (k : Nat) (l0 : List (S44)) (a1 : ByteArray) (a2 : Int) : Option ((List (S44)) × ByteArray × Int) := (page_Parse.f a1).bind fun bt243 => (if bt243.2.2.2.2 = true then ((hist_Rising.f k l0).bind fun t249 => (if t249 = true then ((slices_ContainsFunc_at_page_Of_1.f l0).bind fun t250 => (page_Of.j0 k l0 a2 bt243.2.2.2.2 t250 bt243.1 bt243.2.1 bt243.2.2.1 bt243.2.2.2.1)) else (page_Of.j0 k l0 a2 bt243.2.2.2.2 true bt243.1 bt243.2.1 bt243.2.2.1 bt243.2.2.2.1))) else (if a1.toList = ([] : List UInt8) then ((hist_Rising.f k l0).bind fun t251 => (if t251 = true then ((slices_ContainsFunc_at_page_Of_1.f l0).bind fun t252 => (page_Of.j0 k l0 a2 bt243.2.2.2.2 t252 bt243.1 bt243.2.1 bt243.2.2.1 bt243.2.2.2.1)) else (page_Of.j0 k l0 a2 bt243.2.2.2.2 true bt243.1 bt243.2.1 bt243.2.2.1 bt243.2.2.2.1))) else (page_Of.j0 k l0 a2 bt243.2.2.2.2 true bt243.1 bt243.2.1 bt243.2.2.1 bt243.2.2.2.1)))
def page_Of.T6 : Bool × List (List Nat × List Nat) := (true, [([], []), ([], []), ([1], [1]), ([0, 2], [0, 2]), ([3], [3]), ([4], [4]), ([4, 5], [4, 5]), ([6, 4], [6]), ([7], [7]), ([7], [7]), ([8, 9, 7], [7, 8, 9]), ([10, 7], [7, 10]), ([7], [7]), ([11, 12, 7, 7], [7, 11, 12]), ([13, 7], [7, 13]), ([7, 14], [7, 14])])
def page_Of.B6 : List Nat := [0, 0, 2, 7, 15, 31, 63, 127, 255, 255, 1023, 2047, 255, 8191, 16383, 32767]
theorem page_Of.tab6 : rtab .any (opsOf Tryd.f36 6) = page_Of.T6 := by kernel_rfl
theorem page_Of.bits6 : waitsOk page_Of.T6.2 page_Of.B6 = true := by kernel_rfl
def page_Of.T11 : Bool × List (List Nat × List Nat) := (true, [([], []), ([], []), ([], []), ([0, 1, 2], [0, 1, 2]), ([3], [3]), ([], []), ([], []), ([6], [6]), ([5, 7], [5, 7]), ([8], [8]), ([9, 4], [9]), ([4, 10, 0, 1, 2, 3, 4], [4]), ([10, 11, 0, 1, 2, 3, 4, 5, 6, 7, 8, 9, 10, 11], [10]), ([12, 0, 1, 2, 3, 4, 5, 6, 7, 8, 9, 10, 11, 12], [])])
def page_Of.B11 : List Nat := [0, 0, 0, 7, 15, 0, 0, 64, 224, 480, 1023, 2047, 4095, 8191]
theorem page_Of.tab11 : rtab .any (opsOf Tryd.f36 11) = page_Of.T11 := by kernel_rfl
theorem page_Of.bits11 : waitsOk page_Of.T11.2 page_Of.B11 = true := by kernel_rfl
set_option maxHeartbeats 8000000 in
set_option maxRecDepth 100000 in
theorem page_Of.calls (k : Nat) (A0 : Option Addr) (c0 : Nat) (l0 : List (S44)) (a1 : ByteArray) (a2 : Int) (r1 : List (S44)) (r2 : ByteArray) (r3 : Int) (w : World) (hG : Aside0 (Good w)) (hr0 : Kd.C k44 w A0 l0.length l0) (hc0 : l0.length ≤ c0) (h : page_Of.f k l0 a1 a2 = some (r1, r2, r3)) :
    Calls Tryd.prog 36 #[.slice A0 l0.length c0, .string a1, .int .i64 a2] w fun e w' => ∃ v0_ : Value, e = .returned (.tuple #[v0_, .string r2, .int .i64 r3]) ∧ Kd.R k44 44 w' w.heap.size (fun _ => True) v0_ r1 ∧ Below w.heap.size w w' := by
  have hu44 := Tryd.underlying44
  have HR0 := Aside0.mk hr0
  have HC0 := Aside0.mk hc0
  clear hr0 hc0
  have HB := Aside0.mk (Below.refl w.heap.size w)
  have H : ((page_Parse.f a1).bind fun bt243 => (if bt243.2.2.2.2 = true then ((hist_Rising.f k l0).bind fun t249 => (if t249 = true then ((slices_ContainsFunc_at_page_Of_1.f l0).bind fun t250 => (page_Of.j0 k l0 a2 bt243.2.2.2.2 t250 bt243.1 bt243.2.1 bt243.2.2.1 bt243.2.2.2.1)) else (page_Of.j0 k l0 a2 bt243.2.2.2.2 true bt243.1 bt243.2.1 bt243.2.2.1 bt243.2.2.2.1))) else (if a1.toList = ([] : List UInt8) then ((hist_Rising.f k l0).bind fun t251 => (if t251 = true then ((slices_ContainsFunc_at_page_Of_1.f l0).bind fun t252 => (page_Of.j0 k l0 a2 bt243.2.2.2.2 t252 bt243.1 bt243.2.1 bt243.2.2.1 bt243.2.2.2.1)) else (page_Of.j0 k l0 a2 bt243.2.2.2.2 true bt243.1 bt243.2.1 bt243.2.2.1 bt243.2.2.2.1))) else (page_Of.j0 k l0 a2 bt243.2.2.2.2 true bt243.1 bt243.2.1 bt243.2.2.1 bt243.2.2.2.1)))) = some (r1, r2, r3) := h
  clear h
  replace H := Option.bind_eq_some_iff.mp H
  obtain ⟨⟨t243, t244, t245, t246, t247⟩, A40, H⟩ := H
  replace H : (if t247 = true then ((hist_Rising.f k l0).bind fun t249 => (if t249 = true then ((slices_ContainsFunc_at_page_Of_1.f l0).bind fun t250 => (page_Of.j0 k l0 a2 t247 t250 t243 t244 t245 t246)) else (page_Of.j0 k l0 a2 t247 true t243 t244 t245 t246))) else (if a1.toList = ([] : List UInt8) then ((hist_Rising.f k l0).bind fun t251 => (if t251 = true then ((slices_ContainsFunc_at_page_Of_1.f l0).bind fun t252 => (page_Of.j0 k l0 a2 t247 t252 t243 t244 t245 t246)) else (page_Of.j0 k l0 a2 t247 true t243 t244 t245 t246))) else (page_Of.j0 k l0 a2 t247 true t243 t244 t245 t246))) = some (r1, r2, r3) := H
  have A4 := Aside0.mk A40
  clear A40
  have HC5 := Aside0.mk H
  clear H
  go_enter Tryd.func36, Tryd.ntmps36
  go_upto_region 3 with (first | ((with_reducible refine gate_callee (f := 31) rfl ?_); refine goesL_ (some 16) rfl rfl Tryd.func31 (by kernel_rfl) rfl #[.string a1] rfl (by (try simp only [List.map_toArray, List.map_cons, List.map_nil]); first | done | rfl | (simp only [List.length_drop, List.length_take]; rfl)) ?_; (with_reducible refine (page_Parse.calls a1 t243 t244 t245 t246 t247 _ ?side1 A4.out).mono ?_); (case side1 => exact ⟨Good.below hG.out (by repeat (first | (with_reducible first | exact HB.out | apply below_alloc | apply pw_below_drewN | apply below_drew1) | exact HB.out))⟩); rintro e w6 ⟨rfl, hb⟩; refine ⟨_, rfl, ?_⟩; have n0_ := Aside0.mk (below_step (by repeat (first | (with_reducible first | exact HB.out | apply below_alloc | apply pw_below_drewN | apply below_drew1) | exact HB.out)) hb); clear HB; have HB := n0_; clear n0_; (try clear hb); (try clear hb2); (try clear hk); (try clear hi)) | ((with_reducible refine gate_dst (N := 9) rfl ?_); refine box_event ?hg (N := 9) ?hd (cs := #[.int .i64 0, .int .i64 0, .int .i64 0, .int .i64 0]) (t := 44) ?hr ?_; (case hd => rfl); (case hg => rfl); (case hr => first | (go_simp; done) | (go_simp; rfl)); intro gb248 hg w7 hbox hb; have n0_ := Aside0.mk (below_step (by repeat (first | (with_reducible first | exact HB.out | apply below_alloc | apply pw_below_drewN | apply below_drew1) | exact HB.out)) hb); have n1_ := Aside0.mk (hbox); have n2_ := Aside0.mk ((by rw [hg]; exact (below_size (by repeat (first | (with_reducible first | exact HB.out | apply below_alloc | apply pw_below_drewN | apply below_drew1) | exact HB.out))) : w.heap.size ≤ gb248)); have n3_ := Aside0.mk ((by rw [hg]; exact (below_size (by repeat (first | (with_reducible first | exact HB.out | apply below_alloc | apply pw_below_drewN | apply below_drew1) | exact HB.out))) : w.heap.size ≤ gb248)); clear HB; have HB := n0_; have BK248 := n1_; have GW248 := n2_; have GE248 := n3_; clear n0_ n1_ n2_ n3_; clear hb hbox hg; have hcz8_0 : w7.cell? ⟨gb248, 0, none⟩ = some (.int .i64 0) := (blk_cell BK248.out 0).trans rfl; have hcz8_1 : w7.cell? ⟨gb248, 1, none⟩ = some (.int .i64 0) := (blk_cell BK248.out 1).trans rfl; have hcz8_2 : w7.cell? ⟨gb248, 2, none⟩ = some (.int .i64 0) := (blk_cell BK248.out 2).trans rfl; have hcz8_3 : w7.cell? ⟨gb248, 3, none⟩ = some (.int .i64 0) := (blk_cell BK248.out 3).trans rfl; have hfz8_0 := blk_frozen BK248.out 0; have hfz8_1 := blk_frozen BK248.out 1; have hfz8_2 := blk_frozen BK248.out 2; have hfz8_3 := blk_frozen BK248.out 3))
  (try simp only [Act.put, List.setIfInBounds_toArray, List.set_cons_zero, List.set_cons_succ])
  go_cut [34] (fun v34 wc => ∃ (kq : Nat) (x34_4 : Bool), v34 = .bool x34_4 ∧ Aside0 (page_Of.j0 kq l0 a2 t247 x34_4 t243 t244 t245 t246 = some (r1, r2, r3)) ∧ Aside0 (kq ≤ k) ∧ Aside0 (wc.heap[gb248]? = some (.cells #[.int .i64 t243, .int .i64 t244, .int .i64 t245, .int .i64 t246] 44 (0, 0))) ∧ Aside0 (Below w.heap.size w wc))
  case first =>
    have H := HC5.out
    clear HC5
    by_cases c9 : t247 = true
    · subst c9
      have H1 : ((hist_Rising.f k l0).bind fun t249 => (if t249 = true then ((slices_ContainsFunc_at_page_Of_1.f l0).bind fun t250 => (page_Of.j0 k l0 a2 true t250 t243 t244 t245 t246)) else (page_Of.j0 k l0 a2 true true t243 t244 t245 t246))) = some (r1, r2, r3) := by rw [if_pos rfl] at H; exact H
      clear H
      have H := H1
      clear H1
      replace H := Option.bind_eq_some_iff.mp H
      obtain ⟨t249, A100, H⟩ := H
      replace H : (if t249 = true then ((slices_ContainsFunc_at_page_Of_1.f l0).bind fun t250 => (page_Of.j0 k l0 a2 true t250 t243 t244 t245 t246)) else (page_Of.j0 k l0 a2 true true t243 t244 t245 t246)) = some (r1, r2, r3) := H
      have A10 := Aside0.mk A100
      clear A100
      by_cases c11 : t249 = true
      · subst c11
        have H1 : ((slices_ContainsFunc_at_page_Of_1.f l0).bind fun t250 => (page_Of.j0 k l0 a2 true t250 t243 t244 t245 t246)) = some (r1, r2, r3) := by rw [if_pos rfl] at H; exact H
        clear H
        have H := H1
        clear H1
        replace H := Option.bind_eq_some_iff.mp H
        obtain ⟨t250, A120, H⟩ := H
        replace H : (page_Of.j0 k l0 a2 true t250 t243 t244 t245 t246) = some (r1, r2, r3) := H
        have A12 := Aside0.mk A120
        clear A120
        have H' := Aside0.mk H
        clear H
        go_wp2_with (first | (go_at_call 60; (with_reducible refine (hist_Rising.calls k _ _ l0 true _ ?side1 ?side2 A10.out).mono ?_); (case side1 => exact Kd.C_below HR0.out (by repeat (first | (with_reducible first | exact HB.out | apply below_alloc | apply pw_below_drewN | apply below_drew1 | refine below_set ?_ GE248.out) | exact HB.out))); (case side2 => exact HC0.out); rintro e w13 ⟨rfl, hb⟩; have n0_ := Aside0.mk (blk_below (g := gb248) (o := .cells #[.int .i64 t243, .int .i64 t244, .int .i64 t245, .int .i64 t246] 44 (0, 0)) (by (with_reducible repeat (first | refine blk_drewN ?_ _ | refine blk_drew ?_ | refine blk_alloc ?_ _)); refine blk_put (cs := #[.int .i64 t243, .int .i64 t244, .int .i64 t245, .int .i64 0]) ?_ 3 _ rfl; (with_reducible repeat (first | refine blk_drewN ?_ _ | refine blk_drew ?_ | refine blk_alloc ?_ _)); refine blk_put (cs := #[.int .i64 t243, .int .i64 t244, .int .i64 0, .int .i64 0]) ?_ 2 _ rfl; (with_reducible repeat (first | refine blk_drewN ?_ _ | refine blk_drew ?_ | refine blk_alloc ?_ _)); refine blk_put (cs := #[.int .i64 t243, .int .i64 0, .int .i64 0, .int .i64 0]) ?_ 1 _ rfl; (with_reducible repeat (first | refine blk_drewN ?_ _ | refine blk_drew ?_ | refine blk_alloc ?_ _)); refine blk_put (cs := #[.int .i64 0, .int .i64 0, .int .i64 0, .int .i64 0]) ?_ 0 _ rfl; (with_reducible repeat (first | refine blk_drewN ?_ _ | refine blk_drew ?_ | refine blk_alloc ?_ _)); exact BK248.out) hb); have n1_ := Aside0.mk (below_step (by repeat (first | (with_reducible first | exact HB.out | apply below_alloc | apply pw_below_drewN | apply below_drew1 | refine below_set ?_ GE248.out) | exact HB.out)) hb); clear BK248; clear HB; have BK248 := n0_; have HB := n1_; clear n0_ n1_; (try clear hb); (try clear hb2); (try clear hk); (try clear hi)) | (go_at_call 61; (with_reducible refine (slices_ContainsFunc_at_page_Of_1.calls _ _ l0  t250 _ ?side3 ?side1 ?side2 A12.out).mono ?_); (case side1 => repeat (first | exact (Kd.C_below HR0.out HB.out) | (with_reducible refine Kd.C_alloc ?_ _) | (with_reducible refine Kd.C_drewN ?_ _) | (with_reducible refine Kd.C_drew ?_))); (case side2 => exact HC0.out); (case side3 => exact ⟨Good.below hG.out (by repeat (first | (with_reducible first | exact HB.out | apply below_alloc | apply pw_below_drewN | apply below_drew1 | refine below_set ?_ GE248.out) | exact HB.out))⟩); rintro e w14 ⟨rfl, hb⟩; have n0_ := Aside0.mk (blk_below (g := gb248) (o := .cells #[.int .i64 t243, .int .i64 t244, .int .i64 t245, .int .i64 t246] 44 (0, 0)) (by (with_reducible repeat (first | refine blk_drewN ?_ _ | refine blk_drew ?_ | refine blk_alloc ?_ _)); exact BK248.out) hb); have n1_ := Aside0.mk (below_step (by repeat (first | (with_reducible first | exact HB.out | apply below_alloc | apply pw_below_drewN | apply below_drew1 | refine below_set ?_ GE248.out) | exact HB.out)) hb); clear BK248; clear HB; have BK248 := n0_; have HB := n1_; clear n0_ n1_; (try clear hb); (try clear hb2); (try clear hk); (try clear hi)))
        go_meet
        case rel => exact ⟨_, (t250), (by first | rfl | (simp; done) | (simp [*]; done)), H', ⟨by first | omega | exact Nat.le_refl _⟩, ⟨by (with_reducible repeat (first | refine blk_drewN ?_ _ | refine blk_drew ?_ | refine blk_alloc ?_ _)); exact BK248.out⟩, ⟨by repeat (first | (with_reducible first | exact HB.out | apply below_alloc | apply pw_below_drewN | apply below_drew1 | refine below_set ?_ GE248.out) | exact HB.out)⟩⟩
      · replace c11 := Bool.eq_false_iff.mpr c11
        subst c11
        have H1 : (page_Of.j0 k l0 a2 true true t243 t244 t245 t246) = some (r1, r2, r3) := by rw [if_neg (show ¬ (false = true) by decide)] at H; exact H
        clear H
        have H := H1
        clear H1
        have H' := Aside0.mk H
        clear H
        go_wp2_with (first | (go_at_call 60; (with_reducible refine (hist_Rising.calls k _ _ l0 false _ ?side1 ?side2 A10.out).mono ?_); (case side1 => exact Kd.C_below HR0.out (by repeat (first | (with_reducible first | exact HB.out | apply below_alloc | apply pw_below_drewN | apply below_drew1 | refine below_set ?_ GE248.out) | exact HB.out))); (case side2 => exact HC0.out); rintro e w15 ⟨rfl, hb⟩; have n0_ := Aside0.mk (blk_below (g := gb248) (o := .cells #[.int .i64 t243, .int .i64 t244, .int .i64 t245, .int .i64 t246] 44 (0, 0)) (by (with_reducible repeat (first | refine blk_drewN ?_ _ | refine blk_drew ?_ | refine blk_alloc ?_ _)); refine blk_put (cs := #[.int .i64 t243, .int .i64 t244, .int .i64 t245, .int .i64 0]) ?_ 3 _ rfl; (with_reducible repeat (first | refine blk_drewN ?_ _ | refine blk_drew ?_ | refine blk_alloc ?_ _)); refine blk_put (cs := #[.int .i64 t243, .int .i64 t244, .int .i64 0, .int .i64 0]) ?_ 2 _ rfl; (with_reducible repeat (first | refine blk_drewN ?_ _ | refine blk_drew ?_ | refine blk_alloc ?_ _)); refine blk_put (cs := #[.int .i64 t243, .int .i64 0, .int .i64 0, .int .i64 0]) ?_ 1 _ rfl; (with_reducible repeat (first | refine blk_drewN ?_ _ | refine blk_drew ?_ | refine blk_alloc ?_ _)); refine blk_put (cs := #[.int .i64 0, .int .i64 0, .int .i64 0, .int .i64 0]) ?_ 0 _ rfl; (with_reducible repeat (first | refine blk_drewN ?_ _ | refine blk_drew ?_ | refine blk_alloc ?_ _)); exact BK248.out) hb); have n1_ := Aside0.mk (below_step (by repeat (first | (with_reducible first | exact HB.out | apply below_alloc | apply pw_below_drewN | apply below_drew1 | refine below_set ?_ GE248.out) | exact HB.out)) hb); clear BK248; clear HB; have BK248 := n0_; have HB := n1_; clear n0_ n1_; (try clear hb); (try clear hb2); (try clear hk); (try clear hi)))
        go_meet
        case rel => exact ⟨_, (true), (by first | rfl | (simp; done) | (simp [*]; done)), H', ⟨by first | omega | exact Nat.le_refl _⟩, ⟨by (with_reducible repeat (first | refine blk_drewN ?_ _ | refine blk_drew ?_ | refine blk_alloc ?_ _)); exact BK248.out⟩, ⟨by repeat (first | (with_reducible first | exact HB.out | apply below_alloc | apply pw_below_drewN | apply below_drew1 | refine below_set ?_ GE248.out) | exact HB.out)⟩⟩
    · replace c9 := Bool.eq_false_iff.mpr c9
      subst c9
      have H1 : (if a1.toList = ([] : List UInt8) then ((hist_Rising.f k l0).bind fun t251 => (if t251 = true then ((slices_ContainsFunc_at_page_Of_1.f l0).bind fun t252 => (page_Of.j0 k l0 a2 false t252 t243 t244 t245 t246)) else (page_Of.j0 k l0 a2 false true t243 t244 t245 t246))) else (page_Of.j0 k l0 a2 false true t243 t244 t245 t246)) = some (r1, r2, r3) := by rw [if_neg (show ¬ (false = true) by decide)] at H; exact H
      clear H
      have H := H1
      clear H1
      by_cases c16 : a1.toList = ([] : List UInt8)
      · rw [if_pos c16] at H
        have c16b0 : (a1.toList == ([] : List UInt8)) = true := beq_iff_eq.mpr c16
        have c16b1 : (a1.toList != ([] : List UInt8)) = false := bne_eq_false_iff_eq.mpr c16
        clear c16
        (first | rw [c16b0] | (simp only [i64_w, i32_w]; rw [c16b0]) | skip)
        replace H := Option.bind_eq_some_iff.mp H
        obtain ⟨t251, A170, H⟩ := H
        replace H : (if t251 = true then ((slices_ContainsFunc_at_page_Of_1.f l0).bind fun t252 => (page_Of.j0 k l0 a2 false t252 t243 t244 t245 t246)) else (page_Of.j0 k l0 a2 false true t243 t244 t245 t246)) = some (r1, r2, r3) := H
        have A17 := Aside0.mk A170
        clear A170
        by_cases c18 : t251 = true
        · subst c18
          have H1 : ((slices_ContainsFunc_at_page_Of_1.f l0).bind fun t252 => (page_Of.j0 k l0 a2 false t252 t243 t244 t245 t246)) = some (r1, r2, r3) := by rw [if_pos rfl] at H; exact H
          clear H
          have H := H1
          clear H1
          replace H := Option.bind_eq_some_iff.mp H
          obtain ⟨t252, A190, H⟩ := H
          replace H : (page_Of.j0 k l0 a2 false t252 t243 t244 t245 t246) = some (r1, r2, r3) := H
          have A19 := Aside0.mk A190
          clear A190
          have H' := Aside0.mk H
          clear H
          go_wp2_with (first | (go_at_call 60; (with_reducible refine (hist_Rising.calls k _ _ l0 true _ ?side1 ?side2 A17.out).mono ?_); (case side1 => exact Kd.C_below HR0.out (by repeat (first | (with_reducible first | exact HB.out | apply below_alloc | apply pw_below_drewN | apply below_drew1 | refine below_set ?_ GE248.out) | exact HB.out))); (case side2 => exact HC0.out); rintro e w20 ⟨rfl, hb⟩; have n0_ := Aside0.mk (blk_below (g := gb248) (o := .cells #[.int .i64 t243, .int .i64 t244, .int .i64 t245, .int .i64 t246] 44 (0, 0)) (by (with_reducible repeat (first | refine blk_drewN ?_ _ | refine blk_drew ?_ | refine blk_alloc ?_ _)); refine blk_put (cs := #[.int .i64 t243, .int .i64 t244, .int .i64 t245, .int .i64 0]) ?_ 3 _ rfl; (with_reducible repeat (first | refine blk_drewN ?_ _ | refine blk_drew ?_ | refine blk_alloc ?_ _)); refine blk_put (cs := #[.int .i64 t243, .int .i64 t244, .int .i64 0, .int .i64 0]) ?_ 2 _ rfl; (with_reducible repeat (first | refine blk_drewN ?_ _ | refine blk_drew ?_ | refine blk_alloc ?_ _)); refine blk_put (cs := #[.int .i64 t243, .int .i64 0, .int .i64 0, .int .i64 0]) ?_ 1 _ rfl; (with_reducible repeat (first | refine blk_drewN ?_ _ | refine blk_drew ?_ | refine blk_alloc ?_ _)); refine blk_put (cs := #[.int .i64 0, .int .i64 0, .int .i64 0, .int .i64 0]) ?_ 0 _ rfl; (with_reducible repeat (first | refine blk_drewN ?_ _ | refine blk_drew ?_ | refine blk_alloc ?_ _)); exact BK248.out) hb); have n1_ := Aside0.mk (below_step (by repeat (first | (with_reducible first | exact HB.out | apply below_alloc | apply pw_below_drewN | apply below_drew1 | refine below_set ?_ GE248.out) | exact HB.out)) hb); clear BK248; clear HB; have BK248 := n0_; have HB := n1_; clear n0_ n1_; (try clear hb); (try clear hb2); (try clear hk); (try clear hi)) | (go_at_call 61; (with_reducible refine (slices_ContainsFunc_at_page_Of_1.calls _ _ l0  t252 _ ?side3 ?side1 ?side2 A19.out).mono ?_); (case side1 => repeat (first | exact (Kd.C_below HR0.out HB.out) | (with_reducible refine Kd.C_alloc ?_ _) | (with_reducible refine Kd.C_drewN ?_ _) | (with_reducible refine Kd.C_drew ?_))); (case side2 => exact HC0.out); (case side3 => exact ⟨Good.below hG.out (by repeat (first | (with_reducible first | exact HB.out | apply below_alloc | apply pw_below_drewN | apply below_drew1 | refine below_set ?_ GE248.out) | exact HB.out))⟩); rintro e w21 ⟨rfl, hb⟩; have n0_ := Aside0.mk (blk_below (g := gb248) (o := .cells #[.int .i64 t243, .int .i64 t244, .int .i64 t245, .int .i64 t246] 44 (0, 0)) (by (with_reducible repeat (first | refine blk_drewN ?_ _ | refine blk_drew ?_ | refine blk_alloc ?_ _)); exact BK248.out) hb); have n1_ := Aside0.mk (below_step (by repeat (first | (with_reducible first | exact HB.out | apply below_alloc | apply pw_below_drewN | apply below_drew1 | refine below_set ?_ GE248.out) | exact HB.out)) hb); clear BK248; clear HB; have BK248 := n0_; have HB := n1_; clear n0_ n1_; (try clear hb); (try clear hb2); (try clear hk); (try clear hi)))
          go_meet
          case rel => exact ⟨_, (t252), (by first | rfl | (simp; done) | (simp [*]; done)), H', ⟨by first | omega | exact Nat.le_refl _⟩, ⟨by (with_reducible repeat (first | refine blk_drewN ?_ _ | refine blk_drew ?_ | refine blk_alloc ?_ _)); exact BK248.out⟩, ⟨by repeat (first | (with_reducible first | exact HB.out | apply below_alloc | apply pw_below_drewN | apply below_drew1 | refine below_set ?_ GE248.out) | exact HB.out)⟩⟩
        · replace c18 := Bool.eq_false_iff.mpr c18
          subst c18
          have H1 : (page_Of.j0 k l0 a2 false true t243 t244 t245 t246) = some (r1, r2, r3) := by rw [if_neg (show ¬ (false = true) by decide)] at H; exact H
          clear H
          have H := H1
          clear H1
          have H' := Aside0.mk H
          clear H
          go_wp2_with (first | (go_at_call 60; (with_reducible refine (hist_Rising.calls k _ _ l0 false _ ?side1 ?side2 A17.out).mono ?_); (case side1 => exact Kd.C_below HR0.out (by repeat (first | (with_reducible first | exact HB.out | apply below_alloc | apply pw_below_drewN | apply below_drew1 | refine below_set ?_ GE248.out) | exact HB.out))); (case side2 => exact HC0.out); rintro e w22 ⟨rfl, hb⟩; have n0_ := Aside0.mk (blk_below (g := gb248) (o := .cells #[.int .i64 t243, .int .i64 t244, .int .i64 t245, .int .i64 t246] 44 (0, 0)) (by (with_reducible repeat (first | refine blk_drewN ?_ _ | refine blk_drew ?_ | refine blk_alloc ?_ _)); refine blk_put (cs := #[.int .i64 t243, .int .i64 t244, .int .i64 t245, .int .i64 0]) ?_ 3 _ rfl; (with_reducible repeat (first | refine blk_drewN ?_ _ | refine blk_drew ?_ | refine blk_alloc ?_ _)); refine blk_put (cs := #[.int .i64 t243, .int .i64 t244, .int .i64 0, .int .i64 0]) ?_ 2 _ rfl; (with_reducible repeat (first | refine blk_drewN ?_ _ | refine blk_drew ?_ | refine blk_alloc ?_ _)); refine blk_put (cs := #[.int .i64 t243, .int .i64 0, .int .i64 0, .int .i64 0]) ?_ 1 _ rfl; (with_reducible repeat (first | refine blk_drewN ?_ _ | refine blk_drew ?_ | refine blk_alloc ?_ _)); refine blk_put (cs := #[.int .i64 0, .int .i64 0, .int .i64 0, .int .i64 0]) ?_ 0 _ rfl; (with_reducible repeat (first | refine blk_drewN ?_ _ | refine blk_drew ?_ | refine blk_alloc ?_ _)); exact BK248.out) hb); have n1_ := Aside0.mk (below_step (by repeat (first | (with_reducible first | exact HB.out | apply below_alloc | apply pw_below_drewN | apply below_drew1 | refine below_set ?_ GE248.out) | exact HB.out)) hb); clear BK248; clear HB; have BK248 := n0_; have HB := n1_; clear n0_ n1_; (try clear hb); (try clear hb2); (try clear hk); (try clear hi)))
          go_meet
          case rel => exact ⟨_, (true), (by first | rfl | (simp; done) | (simp [*]; done)), H', ⟨by first | omega | exact Nat.le_refl _⟩, ⟨by (with_reducible repeat (first | refine blk_drewN ?_ _ | refine blk_drew ?_ | refine blk_alloc ?_ _)); exact BK248.out⟩, ⟨by repeat (first | (with_reducible first | exact HB.out | apply below_alloc | apply pw_below_drewN | apply below_drew1 | refine below_set ?_ GE248.out) | exact HB.out)⟩⟩
      · rw [if_neg c16] at H
        have c16b0 : (a1.toList == ([] : List UInt8)) = false := beq_eq_false_iff_ne.mpr c16
        have c16b1 : (a1.toList != ([] : List UInt8)) = true := bne_iff_ne.mpr c16
        (first | rw [c16b0] | (simp only [i64_w, i32_w]; rw [c16b0]) | skip)
        have H' := Aside0.mk H
        clear H
        go_wp2
        go_meet
        case rel => exact ⟨_, (true), (by first | rfl | (simp; done) | (simp [*]; done)), H', ⟨by first | omega | exact Nat.le_refl _⟩, ⟨by (with_reducible repeat (first | refine blk_drewN ?_ _ | refine blk_drew ?_ | refine blk_alloc ?_ _)); refine blk_put (cs := #[.int .i64 t243, .int .i64 t244, .int .i64 t245, .int .i64 0]) ?_ 3 _ rfl; (with_reducible repeat (first | refine blk_drewN ?_ _ | refine blk_drew ?_ | refine blk_alloc ?_ _)); refine blk_put (cs := #[.int .i64 t243, .int .i64 t244, .int .i64 0, .int .i64 0]) ?_ 2 _ rfl; (with_reducible repeat (first | refine blk_drewN ?_ _ | refine blk_drew ?_ | refine blk_alloc ?_ _)); refine blk_put (cs := #[.int .i64 t243, .int .i64 0, .int .i64 0, .int .i64 0]) ?_ 1 _ rfl; (with_reducible repeat (first | refine blk_drewN ?_ _ | refine blk_drew ?_ | refine blk_alloc ?_ _)); refine blk_put (cs := #[.int .i64 0, .int .i64 0, .int .i64 0, .int .i64 0]) ?_ 0 _ rfl; (with_reducible repeat (first | refine blk_drewN ?_ _ | refine blk_drew ?_ | refine blk_alloc ?_ _)); exact BK248.out⟩, ⟨by repeat (first | (with_reducible first | exact HB.out | apply below_alloc | apply pw_below_drewN | apply below_drew1 | refine below_set ?_ GE248.out) | exact HB.out)⟩⟩
  case rest =>
    clear HC5
    try clear c1
    try clear p2
    try clear c3
    try clear c9
    try clear c11
    try clear c16
    try clear c16b0
    try clear c16b1
    try clear c18
    try clear hcz8_0
    try clear hcz8_1
    try clear hcz8_2
    try clear hcz8_3
    try clear hfz8_0
    try clear hfz8_1
    try clear hfz8_2
    try clear hfz8_3
    obtain ⟨kq, x34_4, rfl, HA, HJ4, BK248, HB⟩ := hcut
    cases kq with
    | zero => exact absurd HA.out (by simp [page_Of.j0])
    | succ kj4 =>
      have H := HA.out
      clear HA
      simp only [page_Of.j0] at H
      by_cases c23 : x34_4 = true
      · subst c23
        have H1 : (some (([] : List (S44)), (⟨#[]⟩ : ByteArray), 140)) = some (r1, r2, r3) := by rw [if_pos rfl] at H; exact H
        clear H
        have H := H1
        clear H1
        simp only [Option.some.injEq, Prod.mk.injEq] at H
        obtain ⟨rfl, rfl, rfl⟩ := H
        go_wp2
        go_ret3
        exact ⟨_, by first | rfl | (simp [errW_none, errW_some] <;> rfl) | (simp [*, errW_none, errW_some] <;> rfl), by first | exact Kd.R_nil _ _ _ _ _ | exact Kd.N_nil _ _ _ _ _ | exact Kd.V_nil _ _ _ _ _ | exact Kd.Q_nil _ _ _ _ _ | exact Kd.S_nil _ _ _ _ _, by repeat (first | (with_reducible first | exact HB.out | apply below_alloc | apply pw_below_drewN | apply below_drew1 | refine below_set ?_ GE248.out) | exact HB.out)⟩
      · replace c23 := Bool.eq_false_iff.mpr c23
        subst c23
        have H1 : (page_Of.l0 kj4 l0 a2 t247 0 t243 t244 t245 t246) = some (r1, r2, r3) := by rw [if_neg (show ¬ (false = true) by decide)] at H; exact H
        clear H
        have H := H1
        clear H1
        have HC24 := Aside0.mk H
        clear H
        go_upto_block 0 with (fail)
        go_cut [12] (fun v12 wc => ∃ (kq : Nat) (x12_23 : Int), v12 = .int .i64 x12_23 ∧ Aside0 (page_Of.j2 kq l0 a2 x12_23 = some (r1, r2, r3)) ∧ Aside0 (kq ≤ kj4) ∧ Aside0 (wc.heap[gb248]? = some (.cells #[.int .i64 t243, .int .i64 t244, .int .i64 t245, .int .i64 t246] 44 (0, 0))) ∧ Aside0 (Below w.heap.size w wc))
        case first =>
          have H := HC24.out
          clear HC24
          have H' := Aside0.mk H
          clear H
          go_wp2
          go_loopg [12] kj4 (fun kq v12 w' => ∃ (x12_2 : Int), v12 = .int .i64 x12_2 ∧ Aside0 (page_Of.l0 kq l0 a2 t247 x12_2 t243 t244 t245 t246 = some (r1, r2, r3)) ∧ Aside0 (kq ≤ kj4) ∧ Aside0 (w'.heap[gb248]? = some (.cells #[.int .i64 t243, .int .i64 t244, .int .i64 t245, .int .i64 t246] 44 (0, 0))) ∧ Aside0 (Below w.heap.size w w'))
          case atStart => exact ⟨(0), (by first | rfl | (simp; done) | (simp [*]; done)), H', ⟨Nat.le_refl _⟩, ⟨by (with_reducible repeat (first | refine blk_drewN ?_ _ | refine blk_drew ?_ | refine blk_alloc ?_ _)); exact BK248.out⟩, ⟨by repeat (first | (with_reducible first | exact HB.out | apply below_alloc | apply pw_below_drewN | apply below_drew1 | refine below_set ?_ GE248.out) | exact HB.out)⟩⟩
          case round =>
            clear H'
            try clear c1
            try clear c2
            try clear p2
            try clear c3
            try clear c9
            try clear c11
            try clear c16
            try clear c16b0
            try clear c16b1
            try clear c18
            try clear c23
            try clear hcz8_0
            try clear hcz8_1
            try clear hcz8_2
            try clear hcz8_3
            try clear hfz8_0
            try clear hfz8_1
            try clear hfz8_2
            try clear hfz8_3
            try clear p2
            obtain ⟨x12_2, rfl, HA, HK2, BK248, HB⟩ := hrel
            cases gk with
            | zero => exact absurd HA.out (by simp [page_Of.l0])
            | succ k2 =>
              have H := HA.out
              clear HA
              simp only [page_Of.l0] at H
              by_cases c25 : x12_2 < (l0.length : Int)
              · rw [if_pos c25] at H
                have c25b0 : decide (x12_2 < (l0.length : Int)) = true := decide_eq_true c25
                clear c25
                (first | rw [c25b0] | (simp only [i64_w, i32_w]; rw [c25b0]) | skip)
                by_cases c26 : t247 = true
                · subst c26
                  have H1 : (if 0 ≤ x12_2 then ((hist_Stay_Cmp.f k2 ((rd_T44 l0 x12_2).f0.f0) ((rd_T44 l0 x12_2).f0.f1) ((rd_T44 l0 x12_2).f1) ((rd_T44 l0 x12_2).f2) t243 t244 t245 t246).bind fun t254 => (if t254 ≤ 0 then (page_Of.l0 k2 l0 a2 true (wrap64 (x12_2 + 1)) t243 t244 t245 t246) else (page_Of.j2 k2 l0 a2 x12_2))) else (none)) = some (r1, r2, r3) := by rw [if_pos rfl] at H; exact H
                  clear H
                  have H := H1
                  clear H1
                  by_cases c27 : 0 ≤ x12_2
                  · rw [if_pos c27] at H
                    have c27b0 : decide (0 ≤ x12_2) = true := decide_eq_true c27
                    clear c27
                    replace H := Option.bind_eq_some_iff.mp H
                    obtain ⟨t254, A280, H⟩ := H
                    replace H : (if t254 ≤ 0 then (page_Of.l0 k2 l0 a2 true (wrap64 (x12_2 + 1)) t243 t244 t245 t246) else (page_Of.j2 k2 l0 a2 x12_2)) = some (r1, r2, r3) := H
                    have A28 := Aside0.mk A280
                    clear A280
                    by_cases c29 : t254 ≤ 0
                    · rw [if_pos c29] at H
                      have c29b0 : decide (t254 ≤ 0) = true := decide_eq_true c29
                      clear c29
                      have H' := Aside0.mk H
                      clear H
                      try go_wp2
                      have n0_ := Aside0.mk (blk_drew BK248.out)
                      have n1_ := Aside0.mk (below_drew1 HB.out)
                      clear BK248
                      clear HB
                      have BK248 := n0_
                      have HB := n1_
                      clear n0_ n1_
                      have p253 : 0 ≤ (x12_2 : Int) := of_decide_eq_true (by first | (with_reducible assumption) | assumption)
                      have q253 : x12_2 < (l0.length : Int) := of_decide_eq_true (by first | (with_reducible assumption) | assumption)
                      obtain ⟨ad253, e253, hx253_0, hx253_1, hx253_2, hx253_3⟩ := at_T44 HR0.out x12_2 p253 q253
                      have hw253_3 := hx253_3
                      have hw253_2 := hx253_2
                      have hw253_1 := hx253_1
                      have hw253_0 := hx253_0
                      cases e253
                      replace hx253_0 := (HB.out.cell (World.block_lt_of_cell? w _ hx253_0)).trans hx253_0
                      replace hx253_1 := (HB.out.cell (World.block_lt_of_cell? w _ hx253_1)).trans hx253_1
                      replace hx253_2 := (HB.out.cell (World.block_lt_of_cell? w _ hx253_2)).trans hx253_2
                      replace hx253_3 := (HB.out.cell (World.block_lt_of_cell? w _ hx253_3)).trans hx253_3
                      replace p253 := eq_true p253
                      replace q253 := eq_true q253
                      refine start_ (n := 16) (S := fun w' => w'.cell? ⟨gb248, 0, none⟩ = some (.int .i64 t243) ∧ w'.cell? ⟨gb248, 1, none⟩ = some (.int .i64 t244) ∧ w'.cell? ⟨gb248, 2, none⟩ = some (.int .i64 t245) ∧ w'.cell? ⟨gb248, 3, none⟩ = some (.int .i64 t246) ∧ w'.cell? (ad253.add ((x12_2).toNat * 4)) = some (.int .i64 ((rd_T44 l0 x12_2).f0.f0)) ∧ w'.cell? ⟨(ad253.add ((x12_2).toNat * 4)).block, (ad253.add ((x12_2).toNat * 4)).off + 1, none⟩ = some (.int .i64 ((rd_T44 l0 x12_2).f0.f1)) ∧ w'.cell? ⟨(ad253.add ((x12_2).toNat * 4)).block, (ad253.add ((x12_2).toNat * 4)).off + 2, none⟩ = some (.int .i64 ((rd_T44 l0 x12_2).f1)) ∧ w'.cell? ⟨(ad253.add ((x12_2).toNat * 4)).block, (ad253.add ((x12_2).toNat * 4)).off + 3, none⟩ = some (.int .i64 ((rd_T44 l0 x12_2).f2))) (ds := []) #[false, false, false, false, false, false, false, false, false, false, false, false, false, false, false, false] (by kernel_rfl) rfl rfl ⟨(blk_cell BK248.out 0).trans rfl, (blk_cell BK248.out 1).trans rfl, (blk_cell BK248.out 2).trans rfl, (blk_cell BK248.out 3).trans rfl, ((HB.out.cell (World.block_lt_of_cell? w _ hw253_0)).trans hw253_0), ((HB.out.cell (World.block_lt_of_cell? w _ hw253_1)).trans hw253_1), ((HB.out.cell (World.block_lt_of_cell? w _ hw253_2)).trans hw253_2), ((HB.out.cell (World.block_lt_of_cell? w _ hw253_3)).trans hw253_3)⟩ (fun hHeld => ?_); refine with_tabW page_Of.tab6 page_Of.bits6 (fun HT_ HW_ => ?_)
                      generalize wr.drew = w30 at BK248 HB hx253_0 hx253_1 hx253_2 hx253_3 hHeld ⊢
                      refine pure_ (i := 0) (N := some 35) (v := ?_) (a' := ?_) #[true, false, false, false, false, false, false, false, false, false, false, false, false, false, false, false] rfl rfl (any_of HT_.out (by kernel_rfl)) (fun _ _ _ h => h) (Or.inl ⟨by rfl, ?_⟩) ?_ ?_
                      rotate_left
                      · intro w'
                        go_simp
                        with_reducible rfl
                      rotate_left
                      · simp only [Act.put, List.setIfInBounds_toArray, List.set_cons_zero, List.set_cons_succ, i64_w, i32_w]
                        rfl
                      refine pure_ (i := 1) (N := some 36) (v := ?_) (a' := ?_) #[true, true, false, false, false, false, false, false, false, false, false, false, false, false, false, false] rfl rfl (any_of HT_.out (by kernel_rfl)) (fun _ _ _ h => h) (Or.inl ⟨by rfl, ?_⟩) ?_ ?_
                      rotate_left
                      · intro w'
                        go_simp
                        with_reducible rfl
                      rotate_left
                      · simp only [Act.put, List.setIfInBounds_toArray, List.set_cons_zero, List.set_cons_succ, i64_w, i32_w]
                        rfl
                      refine pure_ (i := 2) (N := some 37) (v := ?_) (a' := ?_) #[true, true, true, false, false, false, false, false, false, false, false, false, false, false, false, false] rfl rfl (any_of HT_.out (by kernel_rfl)) (fun _ _ _ h => h) (Or.inl ⟨by rfl, ?_⟩) ?_ ?_
                      rotate_left
                      · intro w'
                        go_simp
                        with_reducible rfl
                      rotate_left
                      · simp only [Act.put, List.setIfInBounds_toArray, List.set_cons_zero, List.set_cons_succ, i64_w, i32_w]
                        rfl
                      refine pure_ (i := 3) (N := some 38) (v := ?_) (a' := ?_) #[true, true, true, true, false, false, false, false, false, false, false, false, false, false, false, false] rfl rfl (any_of HT_.out (by kernel_rfl)) (fun _ _ _ h => h) (Or.inl ⟨by rfl, ?_⟩) ?_ ?_
                      rotate_left
                      · intro w'
                        go_simp
                        with_reducible rfl
                      rotate_left
                      · simp only [Act.put, List.setIfInBounds_toArray, List.set_cons_zero, List.set_cons_succ, i64_w, i32_w]
                        rfl
                      refine pure_ (i := 4) (N := some 39) (v := ?_) (a' := ?_) #[true, true, true, true, true, false, false, false, false, false, false, false, false, false, false, false] rfl rfl (any_of HT_.out (by kernel_rfl)) (fun _ _ _ h => h) (Or.inl ⟨by rfl, ?_⟩) ?_ ?_
                      rotate_left
                      · intro w'
                        go_simp
                        with_reducible rfl
                      rotate_left
                      · simp only [Act.put, List.setIfInBounds_toArray, List.set_cons_zero, List.set_cons_succ, i64_w, i32_w]
                        rfl
                      refine pure_ (i := 5) (N := some 40) (v := ?_) (a' := ?_) #[true, true, true, true, true, true, false, false, false, false, false, false, false, false, false, false] rfl rfl (any_of HT_.out (by kernel_rfl)) (fun _ _ _ h => h) (Or.inl ⟨by rfl, ?_⟩) ?_ ?_
                      rotate_left
                      · intro w'
                        go_simp
                        with_reducible rfl
                      rotate_left
                      · simp only [Act.put, List.setIfInBounds_toArray, List.set_cons_zero, List.set_cons_succ, i64_w, i32_w]
                        rfl
                      refine pure_ (i := 6) (N := some 41) (v := ?_) (a' := ?_) #[true, true, true, true, true, true, true, false, false, false, false, false, false, false, false, false] rfl rfl (any_of HT_.out (by kernel_rfl)) (fun _ _ _ h => h) (Or.inl ⟨by rfl, ?_⟩) ?_ ?_
                      rotate_left
                      · intro w'
                        go_simp
                        with_reducible rfl
                      rotate_left
                      · simp only [Act.put, List.setIfInBounds_toArray, List.set_cons_zero, List.set_cons_succ, i64_w, i32_w]
                        rfl
                      refine pure_ (i := 7) (N := some 42) (v := ?_) (a' := ?_) #[true, true, true, true, true, true, true, true, false, false, false, false, false, false, false, false] rfl rfl (any_of HT_.out (by kernel_rfl)) (fun _ _ _ h => h) (Or.inl ⟨by rfl, ?_⟩) ?_ ?_
                      rotate_left
                      · intro w'
                        go_simp
                        with_reducible rfl
                      rotate_left
                      · simp only [Act.put, List.setIfInBounds_toArray, List.set_cons_zero, List.set_cons_succ, i64_w, i32_w]
                        rfl
                      refine pure_ (i := 8) (N := some 43) (v := ?_) (a' := ?_) #[true, true, true, true, true, true, true, true, true, false, false, false, false, false, false, false] rfl rfl (any_of HT_.out (by kernel_rfl)) (fun _ _ _ h => h) (Or.inl ⟨by rfl, ?_⟩) ?_ ?_
                      rotate_left
                      · intro w'
                        go_simp
                        with_reducible rfl
                      rotate_left
                      · simp only [Act.put, List.setIfInBounds_toArray, List.set_cons_zero, List.set_cons_succ, i64_w, i32_w]
                        rfl
                      refine pure_ (i := 9) (N := some 44) (v := ?_) (a' := ?_) #[true, true, true, true, true, true, true, true, true, true, false, false, false, false, false, false] rfl rfl (any_of HT_.out (by kernel_rfl)) (fun _ _ _ h => h) (Or.inl ⟨by rfl, ?_⟩) ?_ ?_
                      rotate_left
                      · intro w'
                        go_simp
                        with_reducible rfl
                      rotate_left
                      · simp only [Act.put, List.setIfInBounds_toArray, List.set_cons_zero, List.set_cons_succ, i64_w, i32_w]
                        rfl
                      refine pure_ (i := 10) (N := some 45) (v := ?_) (a' := ?_) #[true, true, true, true, true, true, true, true, true, true, true, false, false, false, false, false] rfl rfl (any_of HT_.out (by kernel_rfl)) (fun _ _ _ h => h) (Or.inl ⟨by rfl, ?_⟩) ?_ ?_
                      rotate_left
                      · intro w'
                        go_simp
                        with_reducible rfl
                      rotate_left
                      · simp only [Act.put, List.setIfInBounds_toArray, List.set_cons_zero, List.set_cons_succ, i64_w, i32_w]
                        rfl
                      refine take_ (i := 11) (N := some 46) (v := ?_) (a' := ?_) #[true, true, true, true, true, true, true, true, true, true, true, true, false, false, false, false] rfl rfl (take_ofW HT_.out HW_.out (by kernel_rfl)) (fun _ _ _ h => h) (Or.inl ⟨by rfl, ?_⟩) hHeld ?_ ?_
                      rotate_left
                      · rintro w' ⟨s0, s1, s2, s3, s4, s5, s6, s7⟩
                        go_simp
                        with_reducible rfl
                      rotate_left
                      · simp only [Act.put, List.setIfInBounds_toArray, List.set_cons_zero, List.set_cons_succ, i64_w, i32_w]
                        rfl
                      refine take_ (i := 12) (N := some 47) (v := ?_) (a' := ?_) #[true, true, true, true, true, true, true, true, true, true, true, true, true, false, false, false] rfl rfl (take_ofW HT_.out HW_.out (by kernel_rfl)) (fun _ _ _ h => h) (Or.inl ⟨by rfl, ?_⟩) hHeld ?_ ?_
                      rotate_left
                      · rintro w' ⟨s0, s1, s2, s3, s4, s5, s6, s7⟩
                        go_simp
                        with_reducible rfl
                      rotate_left
                      · simp only [Act.put, List.setIfInBounds_toArray, List.set_cons_zero, List.set_cons_succ, i64_w, i32_w]
                        rfl
                      refine one_ (i := 13) (N := some 48) #[true, true, true, true, true, true, true, true, true, true, true, true, true, true, false, false] rfl rfl (one_of HT_.out (by kernel_rfl)) (by decide) (fun K hK => ?_)
                      refine goes_ Tryd.func62 (by kernel_rfl) rfl #[.agg #[.int .i64 ((rd_T44 l0 x12_2).f0.f0), .int .i64 ((rd_T44 l0 x12_2).f0.f1), .int .i64 ((rd_T44 l0 x12_2).f1), .int .i64 ((rd_T44 l0 x12_2).f2)], .agg #[.int .i64 t243, .int .i64 t244, .int .i64 t245, .int .i64 t246]] (by rfl) rfl rfl (by (try simp only [List.map_toArray, List.map_cons, List.map_nil]); first | done | rfl | (simp only [List.length_drop, List.length_take]; rfl)) ?_
                      with_reducible refine (hist_Stay_Cmp.calls k2 ((rd_T44 l0 x12_2).f0.f0) ((rd_T44 l0 x12_2).f0.f1) ((rd_T44 l0 x12_2).f1) ((rd_T44 l0 x12_2).f2) t243 t244 t245 t246 t254 _ A28.out).mono ?_
                      rintro e w31 ⟨rfl, hb⟩
                      refine ⟨_, rfl, ?_⟩
                      have n0_ := Aside0.mk (blk_below (g := gb248) (o := .cells #[.int .i64 t243, .int .i64 t244, .int .i64 t245, .int .i64 t246] 44 (0, 0)) (by (with_reducible repeat (first | refine blk_drewN ?_ _ | refine blk_drew ?_ | refine blk_alloc ?_ _)); exact BK248.out) hb)
                      have n1_ := Aside0.mk (below_step (by repeat (first | (with_reducible first | exact HB.out | apply below_alloc | apply pw_below_drewN | apply below_drew1 | refine below_set ?_ GE248.out) | exact HB.out)) hb)
                      clear BK248
                      clear HB
                      have BK248 := n0_
                      have HB := n1_
                      clear n0_ n1_
                      (try clear hb)
                      (try clear hb2)
                      (try clear hk)
                      (try clear hi)
                      refine hK.out _ _ ⟨(blk_cell BK248.out 0).trans rfl, (blk_cell BK248.out 1).trans rfl, (blk_cell BK248.out 2).trans rfl, (blk_cell BK248.out 3).trans rfl, ((HB.out.cell (World.block_lt_of_cell? w _ hw253_0)).trans hw253_0), ((HB.out.cell (World.block_lt_of_cell? w _ hw253_1)).trans hw253_1), ((HB.out.cell (World.block_lt_of_cell? w _ hw253_2)).trans hw253_2), ((HB.out.cell (World.block_lt_of_cell? w _ hw253_3)).trans hw253_3)⟩ (fun hHeld => ?_)
                      clear hK K
                      refine norm_ (a' := ?_) ?_ ?_
                      rotate_left
                      · show Act.put _ (some 48) _ = _
                        simp only [Act.put, List.setIfInBounds_toArray, List.set_cons_zero, List.set_cons_succ, i64_w, i32_w]
                        rfl
                      refine pure_ (i := 14) (N := some 49) (v := ?_) (a' := ?_) #[true, true, true, true, true, true, true, true, true, true, true, true, true, true, true, false] rfl rfl (any_of HT_.out (by kernel_rfl)) (fun _ _ _ h => h) (Or.inl ⟨by rfl, ?_⟩) ?_ ?_
                      rotate_left
                      · intro w'
                        go_simp
                        with_reducible rfl
                      rotate_left
                      · simp only [Act.put, List.setIfInBounds_toArray, List.set_cons_zero, List.set_cons_succ, i64_w, i32_w]
                        rfl
                      refine pure_ (i := 15) (N := some 50) (v := ?_) (a' := ?_) #[true, true, true, true, true, true, true, true, true, true, true, true, true, true, true, true] rfl rfl (any_of HT_.out (by kernel_rfl)) (fun _ _ _ h => h) (Or.inl ⟨by rfl, ?_⟩) ?_ ?_
                      rotate_left
                      · intro w'
                        go_simp
                        with_reducible rfl
                      rotate_left
                      · simp only [Act.put, List.setIfInBounds_toArray, List.set_cons_zero, List.set_cons_succ, i64_w, i32_w]
                        rfl
                      refine done_ (done_of HT_.out (by kernel_rfl)) ?_
                      try go_wp2
                      go_roundg k2
                      case measure => have := HJ4.out; have := HK2.out; omega
                      case rel => exact ⟨(wrap64 (x12_2 + 1)), (by first | rfl | (simp; done) | (simp [*]; done)), H', ⟨by have := HJ4.out; have := HK2.out; omega⟩, ⟨by (with_reducible repeat (first | refine blk_drewN ?_ _ | refine blk_drew ?_ | refine blk_alloc ?_ _)); exact BK248.out⟩, ⟨by repeat (first | (with_reducible first | exact HB.out | apply below_alloc | apply pw_below_drewN | apply below_drew1 | refine below_set ?_ GE248.out) | exact HB.out)⟩⟩
                    · rw [if_neg c29] at H
                      have c29b0 : decide (t254 ≤ 0) = false := decide_eq_false c29
                      clear c29
                      have H' := Aside0.mk H
                      clear H
                      try go_wp2
                      have n0_ := Aside0.mk (blk_drew BK248.out)
                      have n1_ := Aside0.mk (below_drew1 HB.out)
                      clear BK248
                      clear HB
                      have BK248 := n0_
                      have HB := n1_
                      clear n0_ n1_
                      have p253 : 0 ≤ (x12_2 : Int) := of_decide_eq_true (by first | (with_reducible assumption) | assumption)
                      have q253 : x12_2 < (l0.length : Int) := of_decide_eq_true (by first | (with_reducible assumption) | assumption)
                      obtain ⟨ad253, e253, hx253_0, hx253_1, hx253_2, hx253_3⟩ := at_T44 HR0.out x12_2 p253 q253
                      have hw253_3 := hx253_3
                      have hw253_2 := hx253_2
                      have hw253_1 := hx253_1
                      have hw253_0 := hx253_0
                      cases e253
                      replace hx253_0 := (HB.out.cell (World.block_lt_of_cell? w _ hx253_0)).trans hx253_0
                      replace hx253_1 := (HB.out.cell (World.block_lt_of_cell? w _ hx253_1)).trans hx253_1
                      replace hx253_2 := (HB.out.cell (World.block_lt_of_cell? w _ hx253_2)).trans hx253_2
                      replace hx253_3 := (HB.out.cell (World.block_lt_of_cell? w _ hx253_3)).trans hx253_3
                      replace p253 := eq_true p253
                      replace q253 := eq_true q253
                      refine start_ (n := 16) (S := fun w' => w'.cell? ⟨gb248, 0, none⟩ = some (.int .i64 t243) ∧ w'.cell? ⟨gb248, 1, none⟩ = some (.int .i64 t244) ∧ w'.cell? ⟨gb248, 2, none⟩ = some (.int .i64 t245) ∧ w'.cell? ⟨gb248, 3, none⟩ = some (.int .i64 t246) ∧ w'.cell? (ad253.add ((x12_2).toNat * 4)) = some (.int .i64 ((rd_T44 l0 x12_2).f0.f0)) ∧ w'.cell? ⟨(ad253.add ((x12_2).toNat * 4)).block, (ad253.add ((x12_2).toNat * 4)).off + 1, none⟩ = some (.int .i64 ((rd_T44 l0 x12_2).f0.f1)) ∧ w'.cell? ⟨(ad253.add ((x12_2).toNat * 4)).block, (ad253.add ((x12_2).toNat * 4)).off + 2, none⟩ = some (.int .i64 ((rd_T44 l0 x12_2).f1)) ∧ w'.cell? ⟨(ad253.add ((x12_2).toNat * 4)).block, (ad253.add ((x12_2).toNat * 4)).off + 3, none⟩ = some (.int .i64 ((rd_T44 l0 x12_2).f2))) (ds := []) #[false, false, false, false, false, false, false, false, false, false, false, false, false, false, false, false] (by kernel_rfl) rfl rfl ⟨(blk_cell BK248.out 0).trans rfl, (blk_cell BK248.out 1).trans rfl, (blk_cell BK248.out 2).trans rfl, (blk_cell BK248.out 3).trans rfl, ((HB.out.cell (World.block_lt_of_cell? w _ hw253_0)).trans hw253_0), ((HB.out.cell (World.block_lt_of_cell? w _ hw253_1)).trans hw253_1), ((HB.out.cell (World.block_lt_of_cell? w _ hw253_2)).trans hw253_2), ((HB.out.cell (World.block_lt_of_cell? w _ hw253_3)).trans hw253_3)⟩ (fun hHeld => ?_); refine with_tabW page_Of.tab6 page_Of.bits6 (fun HT_ HW_ => ?_)
                      generalize wr.drew = w32 at BK248 HB hx253_0 hx253_1 hx253_2 hx253_3 hHeld ⊢
                      refine pure_ (i := 0) (N := some 35) (v := ?_) (a' := ?_) #[true, false, false, false, false, false, false, false, false, false, false, false, false, false, false, false] rfl rfl (any_of HT_.out (by kernel_rfl)) (fun _ _ _ h => h) (Or.inl ⟨by rfl, ?_⟩) ?_ ?_
                      rotate_left
                      · intro w'
                        go_simp
                        with_reducible rfl
                      rotate_left
                      · simp only [Act.put, List.setIfInBounds_toArray, List.set_cons_zero, List.set_cons_succ, i64_w, i32_w]
                        rfl
                      refine pure_ (i := 1) (N := some 36) (v := ?_) (a' := ?_) #[true, true, false, false, false, false, false, false, false, false, false, false, false, false, false, false] rfl rfl (any_of HT_.out (by kernel_rfl)) (fun _ _ _ h => h) (Or.inl ⟨by rfl, ?_⟩) ?_ ?_
                      rotate_left
                      · intro w'
                        go_simp
                        with_reducible rfl
                      rotate_left
                      · simp only [Act.put, List.setIfInBounds_toArray, List.set_cons_zero, List.set_cons_succ, i64_w, i32_w]
                        rfl
                      refine pure_ (i := 2) (N := some 37) (v := ?_) (a' := ?_) #[true, true, true, false, false, false, false, false, false, false, false, false, false, false, false, false] rfl rfl (any_of HT_.out (by kernel_rfl)) (fun _ _ _ h => h) (Or.inl ⟨by rfl, ?_⟩) ?_ ?_
                      rotate_left
                      · intro w'
                        go_simp
                        with_reducible rfl
                      rotate_left
                      · simp only [Act.put, List.setIfInBounds_toArray, List.set_cons_zero, List.set_cons_succ, i64_w, i32_w]
                        rfl
                      refine pure_ (i := 3) (N := some 38) (v := ?_) (a' := ?_) #[true, true, true, true, false, false, false, false, false, false, false, false, false, false, false, false] rfl rfl (any_of HT_.out (by kernel_rfl)) (fun _ _ _ h => h) (Or.inl ⟨by rfl, ?_⟩) ?_ ?_
                      rotate_left
                      · intro w'
                        go_simp
                        with_reducible rfl
                      rotate_left
                      · simp only [Act.put, List.setIfInBounds_toArray, List.set_cons_zero, List.set_cons_succ, i64_w, i32_w]
                        rfl
                      refine pure_ (i := 4) (N := some 39) (v := ?_) (a' := ?_) #[true, true, true, true, true, false, false, false, false, false, false, false, false, false, false, false] rfl rfl (any_of HT_.out (by kernel_rfl)) (fun _ _ _ h => h) (Or.inl ⟨by rfl, ?_⟩) ?_ ?_
                      rotate_left
                      · intro w'
                        go_simp
                        with_reducible rfl
                      rotate_left
                      · simp only [Act.put, List.setIfInBounds_toArray, List.set_cons_zero, List.set_cons_succ, i64_w, i32_w]
                        rfl
                      refine pure_ (i := 5) (N := some 40) (v := ?_) (a' := ?_) #[true, true, true, true, true, true, false, false, false, false, false, false, false, false, false, false] rfl rfl (any_of HT_.out (by kernel_rfl)) (fun _ _ _ h => h) (Or.inl ⟨by rfl, ?_⟩) ?_ ?_
                      rotate_left
                      · intro w'
                        go_simp
                        with_reducible rfl
                      rotate_left
                      · simp only [Act.put, List.setIfInBounds_toArray, List.set_cons_zero, List.set_cons_succ, i64_w, i32_w]
                        rfl
                      refine pure_ (i := 6) (N := some 41) (v := ?_) (a' := ?_) #[true, true, true, true, true, true, true, false, false, false, false, false, false, false, false, false] rfl rfl (any_of HT_.out (by kernel_rfl)) (fun _ _ _ h => h) (Or.inl ⟨by rfl, ?_⟩) ?_ ?_
                      rotate_left
                      · intro w'
                        go_simp
                        with_reducible rfl
                      rotate_left
                      · simp only [Act.put, List.setIfInBounds_toArray, List.set_cons_zero, List.set_cons_succ, i64_w, i32_w]
                        rfl
                      refine pure_ (i := 7) (N := some 42) (v := ?_) (a' := ?_) #[true, true, true, true, true, true, true, true, false, false, false, false, false, false, false, false] rfl rfl (any_of HT_.out (by kernel_rfl)) (fun _ _ _ h => h) (Or.inl ⟨by rfl, ?_⟩) ?_ ?_
                      rotate_left
                      · intro w'
                        go_simp
                        with_reducible rfl
                      rotate_left
                      · simp only [Act.put, List.setIfInBounds_toArray, List.set_cons_zero, List.set_cons_succ, i64_w, i32_w]
                        rfl
                      refine pure_ (i := 8) (N := some 43) (v := ?_) (a' := ?_) #[true, true, true, true, true, true, true, true, true, false, false, false, false, false, false, false] rfl rfl (any_of HT_.out (by kernel_rfl)) (fun _ _ _ h => h) (Or.inl ⟨by rfl, ?_⟩) ?_ ?_
                      rotate_left
                      · intro w'
                        go_simp
                        with_reducible rfl
                      rotate_left
                      · simp only [Act.put, List.setIfInBounds_toArray, List.set_cons_zero, List.set_cons_succ, i64_w, i32_w]
                        rfl
                      refine pure_ (i := 9) (N := some 44) (v := ?_) (a' := ?_) #[true, true, true, true, true, true, true, true, true, true, false, false, false, false, false, false] rfl rfl (any_of HT_.out (by kernel_rfl)) (fun _ _ _ h => h) (Or.inl ⟨by rfl, ?_⟩) ?_ ?_
                      rotate_left
                      · intro w'
                        go_simp
                        with_reducible rfl
                      rotate_left
                      · simp only [Act.put, List.setIfInBounds_toArray, List.set_cons_zero, List.set_cons_succ, i64_w, i32_w]
                        rfl
                      refine pure_ (i := 10) (N := some 45) (v := ?_) (a' := ?_) #[true, true, true, true, true, true, true, true, true, true, true, false, false, false, false, false] rfl rfl (any_of HT_.out (by kernel_rfl)) (fun _ _ _ h => h) (Or.inl ⟨by rfl, ?_⟩) ?_ ?_
                      rotate_left
                      · intro w'
                        go_simp
                        with_reducible rfl
                      rotate_left
                      · simp only [Act.put, List.setIfInBounds_toArray, List.set_cons_zero, List.set_cons_succ, i64_w, i32_w]
                        rfl
                      refine take_ (i := 11) (N := some 46) (v := ?_) (a' := ?_) #[true, true, true, true, true, true, true, true, true, true, true, true, false, false, false, false] rfl rfl (take_ofW HT_.out HW_.out (by kernel_rfl)) (fun _ _ _ h => h) (Or.inl ⟨by rfl, ?_⟩) hHeld ?_ ?_
                      rotate_left
                      · rintro w' ⟨s0, s1, s2, s3, s4, s5, s6, s7⟩
                        go_simp
                        with_reducible rfl
                      rotate_left
                      · simp only [Act.put, List.setIfInBounds_toArray, List.set_cons_zero, List.set_cons_succ, i64_w, i32_w]
                        rfl
                      refine take_ (i := 12) (N := some 47) (v := ?_) (a' := ?_) #[true, true, true, true, true, true, true, true, true, true, true, true, true, false, false, false] rfl rfl (take_ofW HT_.out HW_.out (by kernel_rfl)) (fun _ _ _ h => h) (Or.inl ⟨by rfl, ?_⟩) hHeld ?_ ?_
                      rotate_left
                      · rintro w' ⟨s0, s1, s2, s3, s4, s5, s6, s7⟩
                        go_simp
                        with_reducible rfl
                      rotate_left
                      · simp only [Act.put, List.setIfInBounds_toArray, List.set_cons_zero, List.set_cons_succ, i64_w, i32_w]
                        rfl
                      refine one_ (i := 13) (N := some 48) #[true, true, true, true, true, true, true, true, true, true, true, true, true, true, false, false] rfl rfl (one_of HT_.out (by kernel_rfl)) (by decide) (fun K hK => ?_)
                      refine goes_ Tryd.func62 (by kernel_rfl) rfl #[.agg #[.int .i64 ((rd_T44 l0 x12_2).f0.f0), .int .i64 ((rd_T44 l0 x12_2).f0.f1), .int .i64 ((rd_T44 l0 x12_2).f1), .int .i64 ((rd_T44 l0 x12_2).f2)], .agg #[.int .i64 t243, .int .i64 t244, .int .i64 t245, .int .i64 t246]] (by rfl) rfl rfl (by (try simp only [List.map_toArray, List.map_cons, List.map_nil]); first | done | rfl | (simp only [List.length_drop, List.length_take]; rfl)) ?_
                      with_reducible refine (hist_Stay_Cmp.calls k2 ((rd_T44 l0 x12_2).f0.f0) ((rd_T44 l0 x12_2).f0.f1) ((rd_T44 l0 x12_2).f1) ((rd_T44 l0 x12_2).f2) t243 t244 t245 t246 t254 _ A28.out).mono ?_
                      rintro e w33 ⟨rfl, hb⟩
                      refine ⟨_, rfl, ?_⟩
                      have n0_ := Aside0.mk (blk_below (g := gb248) (o := .cells #[.int .i64 t243, .int .i64 t244, .int .i64 t245, .int .i64 t246] 44 (0, 0)) (by (with_reducible repeat (first | refine blk_drewN ?_ _ | refine blk_drew ?_ | refine blk_alloc ?_ _)); exact BK248.out) hb)
                      have n1_ := Aside0.mk (below_step (by repeat (first | (with_reducible first | exact HB.out | apply below_alloc | apply pw_below_drewN | apply below_drew1 | refine below_set ?_ GE248.out) | exact HB.out)) hb)
                      clear BK248
                      clear HB
                      have BK248 := n0_
                      have HB := n1_
                      clear n0_ n1_
                      (try clear hb)
                      (try clear hb2)
                      (try clear hk)
                      (try clear hi)
                      refine hK.out _ _ ⟨(blk_cell BK248.out 0).trans rfl, (blk_cell BK248.out 1).trans rfl, (blk_cell BK248.out 2).trans rfl, (blk_cell BK248.out 3).trans rfl, ((HB.out.cell (World.block_lt_of_cell? w _ hw253_0)).trans hw253_0), ((HB.out.cell (World.block_lt_of_cell? w _ hw253_1)).trans hw253_1), ((HB.out.cell (World.block_lt_of_cell? w _ hw253_2)).trans hw253_2), ((HB.out.cell (World.block_lt_of_cell? w _ hw253_3)).trans hw253_3)⟩ (fun hHeld => ?_)
                      clear hK K
                      refine norm_ (a' := ?_) ?_ ?_
                      rotate_left
                      · show Act.put _ (some 48) _ = _
                        simp only [Act.put, List.setIfInBounds_toArray, List.set_cons_zero, List.set_cons_succ, i64_w, i32_w]
                        rfl
                      refine pure_ (i := 14) (N := some 49) (v := ?_) (a' := ?_) #[true, true, true, true, true, true, true, true, true, true, true, true, true, true, true, false] rfl rfl (any_of HT_.out (by kernel_rfl)) (fun _ _ _ h => h) (Or.inl ⟨by rfl, ?_⟩) ?_ ?_
                      rotate_left
                      · intro w'
                        go_simp
                        with_reducible rfl
                      rotate_left
                      · simp only [Act.put, List.setIfInBounds_toArray, List.set_cons_zero, List.set_cons_succ, i64_w, i32_w]
                        rfl
                      refine pure_ (i := 15) (N := some 50) (v := ?_) (a' := ?_) #[true, true, true, true, true, true, true, true, true, true, true, true, true, true, true, true] rfl rfl (any_of HT_.out (by kernel_rfl)) (fun _ _ _ h => h) (Or.inl ⟨by rfl, ?_⟩) ?_ ?_
                      rotate_left
                      · intro w'
                        go_simp
                        with_reducible rfl
                      rotate_left
                      · simp only [Act.put, List.setIfInBounds_toArray, List.set_cons_zero, List.set_cons_succ, i64_w, i32_w]
                        rfl
                      refine done_ (done_of HT_.out (by kernel_rfl)) ?_
                      try go_wp2
                      go_meet
                      case rel => exact ⟨_, (x12_2), (by first | rfl | (simp; done) | (simp [*]; done)), H', ⟨by have := HJ4.out; have := HK2.out; first | omega | exact Nat.le_refl _⟩, ⟨by (with_reducible repeat (first | refine blk_drewN ?_ _ | refine blk_drew ?_ | refine blk_alloc ?_ _)); exact BK248.out⟩, ⟨by repeat (first | (with_reducible first | exact HB.out | apply below_alloc | apply pw_below_drewN | apply below_drew1 | refine below_set ?_ GE248.out) | exact HB.out)⟩⟩
                  · rw [if_neg c27] at H
                    exact absurd H (by simp)
                · replace c26 := Bool.eq_false_iff.mpr c26
                  subst c26
                  have H1 : (page_Of.j2 k2 l0 a2 x12_2) = some (r1, r2, r3) := by rw [if_neg (show ¬ (false = true) by decide)] at H; exact H
                  clear H
                  have H := H1
                  clear H1
                  have H' := Aside0.mk H
                  clear H
                  try go_wp2
                  have n0_ := Aside0.mk (blk_drew BK248.out)
                  have n1_ := Aside0.mk (below_drew1 HB.out)
                  clear BK248
                  clear HB
                  have BK248 := n0_
                  have HB := n1_
                  clear n0_ n1_
                  refine start_ (n := 16) (S := fun w' => True) (ds := []) #[false, false, false, false, false, false, false, false, false, false, false, false, false, false, false, false] (by kernel_rfl) rfl rfl trivial (fun hHeld => ?_); refine with_tabW page_Of.tab6 page_Of.bits6 (fun HT_ HW_ => ?_)
                  generalize wr.drew = w34 at BK248 HB hHeld ⊢
                  refine pure_ (i := 0) (N := some 35) (v := ?_) (a' := ?_) #[true, false, false, false, false, false, false, false, false, false, false, false, false, false, false, false] rfl rfl (any_of HT_.out (by kernel_rfl)) (fun _ _ _ h => h) (Or.inl ⟨by rfl, ?_⟩) ?_ ?_
                  rotate_left
                  · intro w'
                    go_simp
                    with_reducible rfl
                  rotate_left
                  · simp only [Act.put, List.setIfInBounds_toArray, List.set_cons_zero, List.set_cons_succ, i64_w, i32_w]
                    rfl
                  refine pure_ (i := 1) (N := some 36) (v := ?_) (a' := ?_) #[true, true, false, false, false, false, false, false, false, false, false, false, false, false, false, false] rfl rfl (any_of HT_.out (by kernel_rfl)) (fun _ _ _ h => h) (Or.inl ⟨by rfl, ?_⟩) ?_ ?_
                  rotate_left
                  · intro w'
                    go_simp
                    with_reducible rfl
                  rotate_left
                  · simp only [Act.put, List.setIfInBounds_toArray, List.set_cons_zero, List.set_cons_succ, i64_w, i32_w]
                    rfl
                  refine pure_ (i := 2) (N := some 37) (v := ?_) (a' := ?_) #[true, true, true, false, false, false, false, false, false, false, false, false, false, false, false, false] rfl rfl (any_of HT_.out (by kernel_rfl)) (fun _ _ _ h => h) (Or.inl ⟨by rfl, ?_⟩) ?_ ?_
                  rotate_left
                  · intro w'
                    go_simp
                    with_reducible rfl
                  rotate_left
                  · simp only [Act.put, List.setIfInBounds_toArray, List.set_cons_zero, List.set_cons_succ, i64_w, i32_w]
                    rfl
                  refine pure_ (i := 3) (N := some 38) (v := ?_) (a' := ?_) #[true, true, true, true, false, false, false, false, false, false, false, false, false, false, false, false] rfl rfl (any_of HT_.out (by kernel_rfl)) (fun _ _ _ h => h) (Or.inl ⟨by rfl, ?_⟩) ?_ ?_
                  rotate_left
                  · intro w'
                    go_simp
                    with_reducible rfl
                  rotate_left
                  · simp only [Act.put, List.setIfInBounds_toArray, List.set_cons_zero, List.set_cons_succ, i64_w, i32_w]
                    rfl
                  refine pure_ (i := 4) (N := some 39) (v := ?_) (a' := ?_) #[true, true, true, true, true, false, false, false, false, false, false, false, false, false, false, false] rfl rfl (any_of HT_.out (by kernel_rfl)) (fun _ _ _ h => h) (Or.inl ⟨by rfl, ?_⟩) ?_ ?_
                  rotate_left
                  · intro w'
                    go_simp
                    with_reducible rfl
                  rotate_left
                  · simp only [Act.put, List.setIfInBounds_toArray, List.set_cons_zero, List.set_cons_succ, i64_w, i32_w]
                    rfl
                  refine pure_ (i := 5) (N := some 40) (v := ?_) (a' := ?_) #[true, true, true, true, true, true, false, false, false, false, false, false, false, false, false, false] rfl rfl (any_of HT_.out (by kernel_rfl)) (fun _ _ _ h => h) (Or.inl ⟨by rfl, ?_⟩) ?_ ?_
                  rotate_left
                  · intro w'
                    go_simp
                    with_reducible rfl
                  rotate_left
                  · simp only [Act.put, List.setIfInBounds_toArray, List.set_cons_zero, List.set_cons_succ, i64_w, i32_w]
                    rfl
                  refine pure_ (i := 6) (N := some 41) (v := ?_) (a' := ?_) #[true, true, true, true, true, true, true, false, false, false, false, false, false, false, false, false] rfl rfl (any_of HT_.out (by kernel_rfl)) (fun _ _ _ h => h) (Or.inl ⟨by rfl, ?_⟩) ?_ ?_
                  rotate_left
                  · intro w'
                    go_simp
                    with_reducible rfl
                  rotate_left
                  · simp only [Act.put, List.setIfInBounds_toArray, List.set_cons_zero, List.set_cons_succ, i64_w, i32_w]
                    rfl
                  refine pure_ (i := 7) (N := some 42) (v := ?_) (a' := ?_) #[true, true, true, true, true, true, true, true, false, false, false, false, false, false, false, false] rfl rfl (any_of HT_.out (by kernel_rfl)) (fun _ _ _ h => h) (Or.inl ⟨by rfl, ?_⟩) ?_ ?_
                  rotate_left
                  · intro w'
                    go_simp
                    with_reducible rfl
                  rotate_left
                  · simp only [Act.put, List.setIfInBounds_toArray, List.set_cons_zero, List.set_cons_succ, i64_w, i32_w]
                    rfl
                  refine pure_ (i := 8) (N := some 43) (v := undef) (a' := ?_) #[true, true, true, true, true, true, true, true, true, false, false, false, false, false, false, false] rfl rfl (any_of HT_.out (by kernel_rfl)) (fun _ _ _ h => h) (Or.inr ⟨by rfl, rfl⟩) ?_ ?_
                  rotate_left
                  · simp only [Act.put, List.setIfInBounds_toArray, List.set_cons_zero, List.set_cons_succ, i64_w, i32_w]
                    rfl
                  refine pure_ (i := 9) (N := some 44) (v := undef) (a' := ?_) #[true, true, true, true, true, true, true, true, true, true, false, false, false, false, false, false] rfl rfl (any_of HT_.out (by kernel_rfl)) (fun _ _ _ h => h) (Or.inr ⟨by rfl, rfl⟩) ?_ ?_
                  rotate_left
                  · simp only [Act.put, List.setIfInBounds_toArray, List.set_cons_zero, List.set_cons_succ, i64_w, i32_w]
                    rfl
                  refine pure_ (i := 10) (N := some 45) (v := undef) (a' := ?_) #[true, true, true, true, true, true, true, true, true, true, true, false, false, false, false, false] rfl rfl (any_of HT_.out (by kernel_rfl)) (fun _ _ _ h => h) (Or.inr ⟨by rfl, rfl⟩) ?_ ?_
                  rotate_left
                  · simp only [Act.put, List.setIfInBounds_toArray, List.set_cons_zero, List.set_cons_succ, i64_w, i32_w]
                    rfl
                  refine pure_ (i := 11) (N := some 46) (v := undef) (a' := ?_) #[true, true, true, true, true, true, true, true, true, true, true, true, false, false, false, false] rfl rfl (any_of HT_.out (by kernel_rfl)) (fun _ _ _ h => h) (Or.inr ⟨by rfl, rfl⟩) ?_ ?_
                  rotate_left
                  · simp only [Act.put, List.setIfInBounds_toArray, List.set_cons_zero, List.set_cons_succ, i64_w, i32_w]
                    rfl
                  refine pure_ (i := 12) (N := some 47) (v := undef) (a' := ?_) #[true, true, true, true, true, true, true, true, true, true, true, true, true, false, false, false] rfl rfl (any_of HT_.out (by kernel_rfl)) (fun _ _ _ h => h) (Or.inr ⟨by rfl, rfl⟩) ?_ ?_
                  rotate_left
                  · simp only [Act.put, List.setIfInBounds_toArray, List.set_cons_zero, List.set_cons_succ, i64_w, i32_w]
                    rfl
                  refine pure_ (i := 13) (N := some 48) (v := undef) (a' := ?_) #[true, true, true, true, true, true, true, true, true, true, true, true, true, true, false, false] rfl rfl (any_of HT_.out (by kernel_rfl)) (fun _ _ _ h => h) (Or.inr ⟨by rfl, rfl⟩) ?_ ?_
                  rotate_left
                  · simp only [Act.put, List.setIfInBounds_toArray, List.set_cons_zero, List.set_cons_succ, i64_w, i32_w]
                    rfl
                  refine pure_ (i := 14) (N := some 49) (v := undef) (a' := ?_) #[true, true, true, true, true, true, true, true, true, true, true, true, true, true, true, false] rfl rfl (any_of HT_.out (by kernel_rfl)) (fun _ _ _ h => h) (Or.inr ⟨by rfl, rfl⟩) ?_ ?_
                  rotate_left
                  · simp only [Act.put, List.setIfInBounds_toArray, List.set_cons_zero, List.set_cons_succ, i64_w, i32_w]
                    rfl
                  refine pure_ (i := 15) (N := some 50) (v := ?_) (a' := ?_) #[true, true, true, true, true, true, true, true, true, true, true, true, true, true, true, true] rfl rfl (any_of HT_.out (by kernel_rfl)) (fun _ _ _ h => h) (Or.inl ⟨by rfl, ?_⟩) ?_ ?_
                  rotate_left
                  · intro w'
                    go_simp
                    with_reducible rfl
                  rotate_left
                  · simp only [Act.put, List.setIfInBounds_toArray, List.set_cons_zero, List.set_cons_succ, i64_w, i32_w]
                    rfl
                  refine done_ (done_of HT_.out (by kernel_rfl)) ?_
                  try go_wp2
                  go_meet
                  case rel => exact ⟨_, (x12_2), (by first | rfl | (simp; done) | (simp [*]; done)), H', ⟨by have := HJ4.out; have := HK2.out; first | omega | exact Nat.le_refl _⟩, ⟨by (with_reducible repeat (first | refine blk_drewN ?_ _ | refine blk_drew ?_ | refine blk_alloc ?_ _)); exact BK248.out⟩, ⟨by repeat (first | (with_reducible first | exact HB.out | apply below_alloc | apply pw_below_drewN | apply below_drew1 | refine below_set ?_ GE248.out) | exact HB.out)⟩⟩
              · rw [if_neg c25] at H
                have c25b0 : decide (x12_2 < (l0.length : Int)) = false := decide_eq_false c25
                clear c25
                (first | rw [c25b0] | (simp only [i64_w, i32_w]; rw [c25b0]) | skip)
                have H' := Aside0.mk H
                clear H
                try go_wp2
                have n0_ := Aside0.mk (blk_drew BK248.out)
                have n1_ := Aside0.mk (below_drew1 HB.out)
                clear BK248
                clear HB
                have BK248 := n0_
                have HB := n1_
                clear n0_ n1_
                refine start_ (n := 16) (S := fun w' => True) (ds := []) #[false, false, false, false, false, false, false, false, false, false, false, false, false, false, false, false] (by kernel_rfl) rfl rfl trivial (fun hHeld => ?_); refine with_tabW page_Of.tab6 page_Of.bits6 (fun HT_ HW_ => ?_)
                generalize wr.drew = w35 at BK248 HB hHeld ⊢
                refine pure_ (i := 0) (N := some 35) (v := ?_) (a' := ?_) #[true, false, false, false, false, false, false, false, false, false, false, false, false, false, false, false] rfl rfl (any_of HT_.out (by kernel_rfl)) (fun _ _ _ h => h) (Or.inl ⟨by rfl, ?_⟩) ?_ ?_
                rotate_left
                · intro w'
                  go_simp
                  with_reducible rfl
                rotate_left
                · simp only [Act.put, List.setIfInBounds_toArray, List.set_cons_zero, List.set_cons_succ, i64_w, i32_w]
                  rfl
                refine pure_ (i := 1) (N := some 36) (v := ?_) (a' := ?_) #[true, true, false, false, false, false, false, false, false, false, false, false, false, false, false, false] rfl rfl (any_of HT_.out (by kernel_rfl)) (fun _ _ _ h => h) (Or.inl ⟨by rfl, ?_⟩) ?_ ?_
                rotate_left
                · intro w'
                  go_simp
                  with_reducible rfl
                rotate_left
                · simp only [Act.put, List.setIfInBounds_toArray, List.set_cons_zero, List.set_cons_succ, i64_w, i32_w]
                  rfl
                refine pure_ (i := 2) (N := some 37) (v := ?_) (a' := ?_) #[true, true, true, false, false, false, false, false, false, false, false, false, false, false, false, false] rfl rfl (any_of HT_.out (by kernel_rfl)) (fun _ _ _ h => h) (Or.inl ⟨by rfl, ?_⟩) ?_ ?_
                rotate_left
                · intro w'
                  go_simp
                  with_reducible rfl
                rotate_left
                · simp only [Act.put, List.setIfInBounds_toArray, List.set_cons_zero, List.set_cons_succ, i64_w, i32_w]
                  rfl
                refine pure_ (i := 3) (N := some 38) (v := ?_) (a' := ?_) #[true, true, true, true, false, false, false, false, false, false, false, false, false, false, false, false] rfl rfl (any_of HT_.out (by kernel_rfl)) (fun _ _ _ h => h) (Or.inl ⟨by rfl, ?_⟩) ?_ ?_
                rotate_left
                · intro w'
                  go_simp
                  with_reducible rfl
                rotate_left
                · simp only [Act.put, List.setIfInBounds_toArray, List.set_cons_zero, List.set_cons_succ, i64_w, i32_w]
                  rfl
                refine pure_ (i := 4) (N := some 39) (v := ?_) (a' := ?_) #[true, true, true, true, true, false, false, false, false, false, false, false, false, false, false, false] rfl rfl (any_of HT_.out (by kernel_rfl)) (fun _ _ _ h => h) (Or.inl ⟨by rfl, ?_⟩) ?_ ?_
                rotate_left
                · intro w'
                  go_simp
                  with_reducible rfl
                rotate_left
                · simp only [Act.put, List.setIfInBounds_toArray, List.set_cons_zero, List.set_cons_succ, i64_w, i32_w]
                  rfl
                refine pure_ (i := 5) (N := some 40) (v := undef) (a' := ?_) #[true, true, true, true, true, true, false, false, false, false, false, false, false, false, false, false] rfl rfl (any_of HT_.out (by kernel_rfl)) (fun _ _ _ h => h) (Or.inr ⟨by rfl, rfl⟩) ?_ ?_
                rotate_left
                · simp only [Act.put, List.setIfInBounds_toArray, List.set_cons_zero, List.set_cons_succ, i64_w, i32_w]
                  rfl
                refine pure_ (i := 6) (N := some 41) (v := ?_) (a' := ?_) #[true, true, true, true, true, true, true, false, false, false, false, false, false, false, false, false] rfl rfl (any_of HT_.out (by kernel_rfl)) (fun _ _ _ h => h) (Or.inl ⟨by rfl, ?_⟩) ?_ ?_
                rotate_left
                · intro w'
                  go_simp
                  with_reducible rfl
                rotate_left
                · simp only [Act.put, List.setIfInBounds_toArray, List.set_cons_zero, List.set_cons_succ, i64_w, i32_w]
                  rfl
                refine pure_ (i := 7) (N := some 42) (v := ?_) (a' := ?_) #[true, true, true, true, true, true, true, true, false, false, false, false, false, false, false, false] rfl rfl (any_of HT_.out (by kernel_rfl)) (fun _ _ _ h => h) (Or.inl ⟨by rfl, ?_⟩) ?_ ?_
                rotate_left
                · intro w'
                  go_simp
                  with_reducible rfl
                rotate_left
                · simp only [Act.put, List.setIfInBounds_toArray, List.set_cons_zero, List.set_cons_succ, i64_w, i32_w]
                  rfl
                refine pure_ (i := 8) (N := some 43) (v := undef) (a' := ?_) #[true, true, true, true, true, true, true, true, true, false, false, false, false, false, false, false] rfl rfl (any_of HT_.out (by kernel_rfl)) (fun _ _ _ h => h) (Or.inr ⟨by rfl, rfl⟩) ?_ ?_
                rotate_left
                · simp only [Act.put, List.setIfInBounds_toArray, List.set_cons_zero, List.set_cons_succ, i64_w, i32_w]
                  rfl
                refine pure_ (i := 9) (N := some 44) (v := undef) (a' := ?_) #[true, true, true, true, true, true, true, true, true, true, false, false, false, false, false, false] rfl rfl (any_of HT_.out (by kernel_rfl)) (fun _ _ _ h => h) (Or.inr ⟨by rfl, rfl⟩) ?_ ?_
                rotate_left
                · simp only [Act.put, List.setIfInBounds_toArray, List.set_cons_zero, List.set_cons_succ, i64_w, i32_w]
                  rfl
                refine pure_ (i := 10) (N := some 45) (v := undef) (a' := ?_) #[true, true, true, true, true, true, true, true, true, true, true, false, false, false, false, false] rfl rfl (any_of HT_.out (by kernel_rfl)) (fun _ _ _ h => h) (Or.inr ⟨by rfl, rfl⟩) ?_ ?_
                rotate_left
                · simp only [Act.put, List.setIfInBounds_toArray, List.set_cons_zero, List.set_cons_succ, i64_w, i32_w]
                  rfl
                refine pure_ (i := 11) (N := some 46) (v := undef) (a' := ?_) #[true, true, true, true, true, true, true, true, true, true, true, true, false, false, false, false] rfl rfl (any_of HT_.out (by kernel_rfl)) (fun _ _ _ h => h) (Or.inr ⟨by rfl, rfl⟩) ?_ ?_
                rotate_left
                · simp only [Act.put, List.setIfInBounds_toArray, List.set_cons_zero, List.set_cons_succ, i64_w, i32_w]
                  rfl
                refine pure_ (i := 12) (N := some 47) (v := undef) (a' := ?_) #[true, true, true, true, true, true, true, true, true, true, true, true, true, false, false, false] rfl rfl (any_of HT_.out (by kernel_rfl)) (fun _ _ _ h => h) (Or.inr ⟨by rfl, rfl⟩) ?_ ?_
                rotate_left
                · simp only [Act.put, List.setIfInBounds_toArray, List.set_cons_zero, List.set_cons_succ, i64_w, i32_w]
                  rfl
                refine pure_ (i := 13) (N := some 48) (v := undef) (a' := ?_) #[true, true, true, true, true, true, true, true, true, true, true, true, true, true, false, false] rfl rfl (any_of HT_.out (by kernel_rfl)) (fun _ _ _ h => h) (Or.inr ⟨by rfl, rfl⟩) ?_ ?_
                rotate_left
                · simp only [Act.put, List.setIfInBounds_toArray, List.set_cons_zero, List.set_cons_succ, i64_w, i32_w]
                  rfl
                refine pure_ (i := 14) (N := some 49) (v := undef) (a' := ?_) #[true, true, true, true, true, true, true, true, true, true, true, true, true, true, true, false] rfl rfl (any_of HT_.out (by kernel_rfl)) (fun _ _ _ h => h) (Or.inr ⟨by rfl, rfl⟩) ?_ ?_
                rotate_left
                · simp only [Act.put, List.setIfInBounds_toArray, List.set_cons_zero, List.set_cons_succ, i64_w, i32_w]
                  rfl
                refine pure_ (i := 15) (N := some 50) (v := ?_) (a' := ?_) #[true, true, true, true, true, true, true, true, true, true, true, true, true, true, true, true] rfl rfl (any_of HT_.out (by kernel_rfl)) (fun _ _ _ h => h) (Or.inl ⟨by rfl, ?_⟩) ?_ ?_
                rotate_left
                · intro w'
                  go_simp
                  with_reducible rfl
                rotate_left
                · simp only [Act.put, List.setIfInBounds_toArray, List.set_cons_zero, List.set_cons_succ, i64_w, i32_w]
                  rfl
                refine done_ (done_of HT_.out (by kernel_rfl)) ?_
                try go_wp2
                go_meet
                case rel => exact ⟨_, (x12_2), (by first | rfl | (simp; done) | (simp [*]; done)), H', ⟨by have := HJ4.out; have := HK2.out; first | omega | exact Nat.le_refl _⟩, ⟨by (with_reducible repeat (first | refine blk_drewN ?_ _ | refine blk_drew ?_ | refine blk_alloc ?_ _)); exact BK248.out⟩, ⟨by repeat (first | (with_reducible first | exact HB.out | apply below_alloc | apply pw_below_drewN | apply below_drew1 | refine below_set ?_ GE248.out) | exact HB.out)⟩⟩
        case rest =>
          clear HC24
          try clear c2
          try clear p2
          try clear q2
          try clear hx2
          try clear c6
          try clear p6
          try clear c25
          try clear c25b0
          try clear p25
          try clear q25
          try clear hx25
          try clear c26
          try clear c27
          try clear c29
          try clear c29b0
          try clear hx253_0
          try clear hx253_1
          try clear hx253_2
          try clear hx253_3
          try clear p253
          try clear q253
          obtain ⟨kq, x12_23, rfl, HA, HJ23, BK248, HB⟩ := hcut
          cases kq with
          | zero => exact absurd HA.out (by simp [page_Of.j2])
          | succ kj23 =>
            have H := HA.out
            clear HA
            simp only [page_Of.j2] at H
            obtain ⟨ji36, hji36⟩ : ∃ j_ : Int, (mx a2 1) = j_ := ⟨_, rfl⟩
            replace H : (if (mn (l0.length : Int) (wrap64 (x12_23 + (mn (ji36) 100)))) = (l0.length : Int) then (if 0 ≤ x12_23 then (if x12_23 ≤ (l0.length : Int) then ((page_copied.f (l0.drop (x12_23 : Int).toNat)).bind fun t259 => (some (t259, (⟨#[]⟩ : ByteArray), 0))) else (none)) else (none)) else (if 0 ≤ x12_23 then (if x12_23 ≤ (mn (l0.length : Int) (wrap64 (x12_23 + (mn (ji36) 100)))) then (if (mn (l0.length : Int) (wrap64 (x12_23 + (mn (ji36) 100)))) ≤ (l0.length : Int) then ((page_copied.f ((l0.take ((mn (l0.length : Int) (wrap64 (x12_23 + (mn (ji36) 100)))) : Int).toNat).drop (x12_23 : Int).toNat)).bind fun t266 => (if 0 ≤ (wrap64 ((mn (l0.length : Int) (wrap64 (x12_23 + (mn (ji36) 100)))) - 1)) then (if (wrap64 ((mn (l0.length : Int) (wrap64 (x12_23 + (mn (ji36) 100)))) - 1)) < (l0.length : Int) then ((page_Key.f ((rd_T44 l0 (wrap64 ((mn (l0.length : Int) (wrap64 (x12_23 + (mn (ji36) 100)))) - 1))).f0.f0) ((rd_T44 l0 (wrap64 ((mn (l0.length : Int) (wrap64 (x12_23 + (mn (ji36) 100)))) - 1))).f0.f1) ((rd_T44 l0 (wrap64 ((mn (l0.length : Int) (wrap64 (x12_23 + (mn (ji36) 100)))) - 1))).f1) ((rd_T44 l0 (wrap64 ((mn (l0.length : Int) (wrap64 (x12_23 + (mn (ji36) 100)))) - 1))).f2)).bind fun t270 => (some (t266, t270, 0))) else (none)) else (none))) else (none)) else (none)) else (none))) = some (r1, r2, r3) := by first | (rw [hji36] at H; exact H) | (simp only [hji36] at H ⊢; exact H)
            have hji36_ : (if a2 < 1 then 1 else a2) = ji36 := hji36
            obtain ⟨ji37, hji37⟩ : ∃ j_ : Int, (mn (ji36) 100) = j_ := ⟨_, rfl⟩
            replace H : (if (mn (l0.length : Int) (wrap64 (x12_23 + (ji37)))) = (l0.length : Int) then (if 0 ≤ x12_23 then (if x12_23 ≤ (l0.length : Int) then ((page_copied.f (l0.drop (x12_23 : Int).toNat)).bind fun t259 => (some (t259, (⟨#[]⟩ : ByteArray), 0))) else (none)) else (none)) else (if 0 ≤ x12_23 then (if x12_23 ≤ (mn (l0.length : Int) (wrap64 (x12_23 + (ji37)))) then (if (mn (l0.length : Int) (wrap64 (x12_23 + (ji37)))) ≤ (l0.length : Int) then ((page_copied.f ((l0.take ((mn (l0.length : Int) (wrap64 (x12_23 + (ji37)))) : Int).toNat).drop (x12_23 : Int).toNat)).bind fun t266 => (if 0 ≤ (wrap64 ((mn (l0.length : Int) (wrap64 (x12_23 + (ji37)))) - 1)) then (if (wrap64 ((mn (l0.length : Int) (wrap64 (x12_23 + (ji37)))) - 1)) < (l0.length : Int) then ((page_Key.f ((rd_T44 l0 (wrap64 ((mn (l0.length : Int) (wrap64 (x12_23 + (ji37)))) - 1))).f0.f0) ((rd_T44 l0 (wrap64 ((mn (l0.length : Int) (wrap64 (x12_23 + (ji37)))) - 1))).f0.f1) ((rd_T44 l0 (wrap64 ((mn (l0.length : Int) (wrap64 (x12_23 + (ji37)))) - 1))).f1) ((rd_T44 l0 (wrap64 ((mn (l0.length : Int) (wrap64 (x12_23 + (ji37)))) - 1))).f2)).bind fun t270 => (some (t266, t270, 0))) else (none)) else (none))) else (none)) else (none)) else (none))) = some (r1, r2, r3) := by first | (rw [hji37] at H; exact H) | (simp only [hji37] at H ⊢; exact H)
            have hji37_ : (if 100 < (ji36) then 100 else (ji36)) = ji37 := hji37
            obtain ⟨ji38, hji38⟩ : ∃ j_ : Int, (mn (l0.length : Int) (wrap64 (x12_23 + (ji37)))) = j_ := ⟨_, rfl⟩
            replace H : (if (ji38) = (l0.length : Int) then (if 0 ≤ x12_23 then (if x12_23 ≤ (l0.length : Int) then ((page_copied.f (l0.drop (x12_23 : Int).toNat)).bind fun t259 => (some (t259, (⟨#[]⟩ : ByteArray), 0))) else (none)) else (none)) else (if 0 ≤ x12_23 then (if x12_23 ≤ (ji38) then (if (ji38) ≤ (l0.length : Int) then ((page_copied.f ((l0.take ((ji38) : Int).toNat).drop (x12_23 : Int).toNat)).bind fun t266 => (if 0 ≤ (wrap64 ((ji38) - 1)) then (if (wrap64 ((ji38) - 1)) < (l0.length : Int) then ((page_Key.f ((rd_T44 l0 (wrap64 ((ji38) - 1))).f0.f0) ((rd_T44 l0 (wrap64 ((ji38) - 1))).f0.f1) ((rd_T44 l0 (wrap64 ((ji38) - 1))).f1) ((rd_T44 l0 (wrap64 ((ji38) - 1))).f2)).bind fun t270 => (some (t266, t270, 0))) else (none)) else (none))) else (none)) else (none)) else (none))) = some (r1, r2, r3) := by first | (rw [hji38] at H; exact H) | (simp only [hji38] at H ⊢; exact H)
            have hji38_ : (if (wrap64 (x12_23 + (ji37))) < (l0.length : Int) then (wrap64 (x12_23 + (ji37))) else (l0.length : Int)) = ji38 := hji38
            by_cases c39 : (ji38) = (l0.length : Int)
            · rw [if_pos c39] at H
              have c39b0 : ((ji38) == (l0.length : Int)) = true := beq_iff_eq.mpr c39
              have c39b1 : ((ji38) != (l0.length : Int)) = false := bne_eq_false_iff_eq.mpr c39
              clear c39
              by_cases c40 : 0 ≤ x12_23
              · rw [if_pos c40] at H
                have c40b0 := eq_true c40
                have c40b1 : decide (0 ≤ x12_23) = true := decide_eq_true c40
                clear c40
                by_cases c41 : x12_23 ≤ (l0.length : Int)
                · rw [if_pos c41] at H
                  have c41b0 := eq_true c41
                  have c41b1 : decide (x12_23 ≤ (l0.length : Int)) = true := decide_eq_true c41
                  clear c41
                  obtain ⟨y255, hy255⟩ : ∃ y_ : List (S44), y_ = (l0.drop (x12_23 : Int).toNat) := ⟨_, rfl⟩
                  replace H : ((page_copied.f y255).bind fun t259 => (some (t259, (⟨#[]⟩ : ByteArray), 0))) = some (r1, r2, r3) := by first | (rw [hy255]; with_reducible exact H) | (have H2_ := (Option.bind_some _ _).symm.trans H; rw [hy255]; with_reducible exact H2_) | (have H2_ := (Option.bind_some _ _).symm.trans H; with_reducible exact H2_) | with_reducible exact H | (rw [hy255]; exact H) | exact H
                  have Ny255 := Aside0.mk hy255
                  clear hy255
                  replace H := Option.bind_eq_some_iff.mp H
                  obtain ⟨t259, A420, H⟩ := H
                  replace H : (some (t259, (⟨#[]⟩ : ByteArray), 0)) = some (r1, r2, r3) := H
                  have A42 := Aside0.mk A420
                  clear A420
                  simp only [Option.some.injEq, Prod.mk.injEq] at H
                  obtain ⟨rfl, rfl, rfl⟩ := H
                  have q43 : (x12_23 : Int) ≤ ((l0.length : Int) : Int) := of_decide_eq_true (by first | (with_reducible assumption) | assumption)
                  obtain ⟨i043, hi043, _, hsz43, _⟩ := info_parts info44
                  have hroom43 : l0.length ≤ c0 := HC0.out
                  have hC43 : Kd.C k44 _ A0 l0.length l0 := HR0.out
                  have q043 : (0 : Int) ≤ (x12_23 : Int) := of_decide_eq_true (by first | (with_reducible assumption) | assumption)
                  have hcut43 := cut_from (P := Tryd.prog) 54 44 .i64 Tryd.underlying54 hi043 4 hsz43 A0 l0.length c0 x12_23 q043 q43
                  have hr43 := Kd.C_drop (m := (x12_23 : Int).toNat) (c := c0) hC43 (by omega) hroom43
                  obtain ⟨A43, hA43⟩ : ∃ A1, A1 = (if c0 = (x12_23 : Int).toNat then A0 else (A0 : Option Addr).map (·.add ((x12_23 : Int).toNat * 4))) := ⟨_, rfl⟩
                  obtain ⟨c43, hc43⟩ : ∃ c1, c1 = c0 - (x12_23 : Int).toNat := ⟨_, rfl⟩
                  have hy43 : y255.length = l0.length - (x12_23 : Int).toNat := (by rw [Ny255.out, List.length_drop] <;> omega)
                  rw [show (l0).drop (x12_23 : Int).toNat = y255 from Ny255.out.symm] at hr43
                  replace hr43 : Kd.C k44 _ A43 y255.length y255 := (by rw [hA43]; exact hr43)
                  rw [← hy43, ← hA43, ← hc43] at hcut43
                  have HR258 := Aside0.mk hr43
                  have HC258 := Aside0.mk (show y255.length ≤ c43 from by rw [hy43, hc43]; exact Nat.sub_le_sub_right hroom43 _)
                  clear hr43 hC43 hroom43 hi043 hsz43 hc43
                  have KY43 := Aside0.mk hy43
                  have KA43 := Aside0.mk hA43
                  clear hy43 hA43
                  replace q43 := eq_true q43
                  go_wp2_with (first | ((with_reducible refine gate_callee (f := 63) rfl ?_); refine goesL_ (some 68) rfl rfl Tryd.func63 (by kernel_rfl) rfl #[.slice A43 y255.length c43] rfl (by (try simp only [List.map_toArray, List.map_cons, List.map_nil]); first | done | rfl | (simp only [List.length_drop, List.length_take]; rfl)) ?_; (with_reducible refine (page_copied.calls _ _ y255 t259 _ ?side1 ?side2 A42.out).mono ?_); (case side1 => repeat (first | exact (Kd.C_below HR258.out HB.out) | (with_reducible refine Kd.C_alloc ?_ _) | (with_reducible refine Kd.C_drewN ?_ _) | (with_reducible refine Kd.C_drew ?_))); (case side2 => exact HC258.out); rintro e w44 ⟨v260, rfl, ho0, hb⟩; refine ⟨_, rfl, ?_⟩; have n0_ := Aside0.mk (Kd.R_lower (Kd.R_newB ho0 (g := gb248) (o := .cells #[.int .i64 t243, .int .i64 t244, .int .i64 t245, .int .i64 t246] 44 (0, 0)) (by (with_reducible repeat (first | refine blk_drewN ?_ _ | refine blk_drew ?_ | refine blk_alloc ?_ _)); exact BK248.out)) (below_size (by repeat (first | (with_reducible first | exact HB.out | apply below_alloc | apply pw_below_drewN | apply below_drew1 | refine below_set ?_ GE248.out) | exact HB.out)))); have n1_ := Aside0.mk (blk_below (g := gb248) (o := .cells #[.int .i64 t243, .int .i64 t244, .int .i64 t245, .int .i64 t246] 44 (0, 0)) (by (with_reducible repeat (first | refine blk_drewN ?_ _ | refine blk_drew ?_ | refine blk_alloc ?_ _)); exact BK248.out) hb); have n2_ := Aside0.mk (below_step (by repeat (first | (with_reducible first | exact HB.out | apply below_alloc | apply pw_below_drewN | apply below_drew1 | refine below_set ?_ GE248.out) | exact HB.out)) hb); clear BK248; clear HB; have HO261 := n0_; have BK248 := n1_; have HB := n2_; clear n0_ n1_ n2_; (try clear hb); (try clear hb2); (try clear hk); (try clear hi); (try clear ho0)))
                  go_ret3
                  exact ⟨_, by first | rfl | (simp [errW_none, errW_some] <;> rfl) | (simp only [← hji36, ← hji37, ← hji38]; first | rfl | (simp [errW_none, errW_some] <;> rfl)) | (simp [*, errW_none, errW_some] <;> rfl), by (with_reducible repeat (first | apply Kd.R_alloc | apply Kd.R_drewN | apply Kd.R_drew)); exact Kd.R_mono HO261.out (fun _ hk => trivial), by repeat (first | (with_reducible first | exact HB.out | apply below_alloc | apply pw_below_drewN | apply below_drew1 | refine below_set ?_ GE248.out) | exact HB.out)⟩
                · rw [if_neg c41] at H
                  exact absurd H (by simp)
              · rw [if_neg c40] at H
                exact absurd H (by simp)
            · rw [if_neg c39] at H
              have c39b0 : ((ji38) == (l0.length : Int)) = false := beq_eq_false_iff_ne.mpr c39
              have c39b1 : ((ji38) != (l0.length : Int)) = true := bne_iff_ne.mpr c39
              (try (have hx_ := hji38_; clear hx_ c39))
              by_cases c45 : 0 ≤ x12_23
              · rw [if_pos c45] at H
                have c45b0 := eq_true c45
                have c45b1 : decide (0 ≤ x12_23) = true := decide_eq_true c45
                clear c45
                by_cases c46 : x12_23 ≤ (ji38)
                · rw [if_pos c46] at H
                  have c46b0 := eq_true c46
                  have c46b1 : decide (x12_23 ≤ (ji38)) = true := decide_eq_true c46
                  clear c46
                  by_cases c47 : (ji38) ≤ (l0.length : Int)
                  · rw [if_pos c47] at H
                    have c47b0 := eq_true c47
                    have c47b1 : decide ((ji38) ≤ (l0.length : Int)) = true := decide_eq_true c47
                    clear c47
                    obtain ⟨y262, hy262⟩ : ∃ y_ : List (S44), y_ = ((l0.take ((ji38) : Int).toNat).drop (x12_23 : Int).toNat) := ⟨_, rfl⟩
                    replace H : ((page_copied.f y262).bind fun t266 => (if 0 ≤ (wrap64 ((ji38) - 1)) then (if (wrap64 ((ji38) - 1)) < (l0.length : Int) then ((page_Key.f ((rd_T44 l0 (wrap64 ((ji38) - 1))).f0.f0) ((rd_T44 l0 (wrap64 ((ji38) - 1))).f0.f1) ((rd_T44 l0 (wrap64 ((ji38) - 1))).f1) ((rd_T44 l0 (wrap64 ((ji38) - 1))).f2)).bind fun t270 => (some (t266, t270, 0))) else (none)) else (none))) = some (r1, r2, r3) := by first | (rw [hy262]; with_reducible exact H) | (have H2_ := (Option.bind_some _ _).symm.trans H; rw [hy262]; with_reducible exact H2_) | (have H2_ := (Option.bind_some _ _).symm.trans H; with_reducible exact H2_) | with_reducible exact H | (rw [hy262]; exact H) | exact H
                    have Ny262 := Aside0.mk hy262
                    clear hy262
                    replace H := Option.bind_eq_some_iff.mp H
                    obtain ⟨t266, A480, H⟩ := H
                    replace H : (if 0 ≤ (wrap64 ((ji38) - 1)) then (if (wrap64 ((ji38) - 1)) < (l0.length : Int) then ((page_Key.f ((rd_T44 l0 (wrap64 ((ji38) - 1))).f0.f0) ((rd_T44 l0 (wrap64 ((ji38) - 1))).f0.f1) ((rd_T44 l0 (wrap64 ((ji38) - 1))).f1) ((rd_T44 l0 (wrap64 ((ji38) - 1))).f2)).bind fun t270 => (some (t266, t270, 0))) else (none)) else (none)) = some (r1, r2, r3) := H
                    have A48 := Aside0.mk A480
                    clear A480
                    obtain ⟨ji49, hji49⟩ : ∃ j_ : Int, (wrap64 ((ji38) - 1)) = j_ := ⟨_, rfl⟩
                    replace H : (if 0 ≤ (ji49) then (if (ji49) < (l0.length : Int) then ((page_Key.f ((rd_T44 l0 (ji49)).f0.f0) ((rd_T44 l0 (ji49)).f0.f1) ((rd_T44 l0 (ji49)).f1) ((rd_T44 l0 (ji49)).f2)).bind fun t270 => (some (t266, t270, 0))) else (none)) else (none)) = some (r1, r2, r3) := by first | (rw [hji49] at H; exact H) | (simp only [hji49] at H ⊢; exact H)
                    (try rw [hji49] at A48)
                    have hji49w : (IntKind.i64.wrap ((ji38) - 1)) = ji49 := (i64_w _).trans hji49
                    by_cases c50 : 0 ≤ (ji49)
                    · rw [if_pos c50] at H
                      have c50b0 : decide (0 ≤ (ji49)) = true := decide_eq_true c50
                      clear c50
                      by_cases c51 : (ji49) < (l0.length : Int)
                      · rw [if_pos c51] at H
                        have c51b0 : decide ((ji49) < (l0.length : Int)) = true := decide_eq_true c51
                        clear c51
                        replace H := Option.bind_eq_some_iff.mp H
                        obtain ⟨t270, A520, H⟩ := H
                        replace H : (some (t266, t270, 0)) = some (r1, r2, r3) := H
                        have A52 := Aside0.mk A520
                        clear A520
                        simp only [Option.some.injEq, Prod.mk.injEq] at H
                        obtain ⟨rfl, rfl, rfl⟩ := H
                        try go_wp2
                        have n0_ := Aside0.mk (blk_drew BK248.out)
                        have n1_ := Aside0.mk (below_drew1 HB.out)
                        clear BK248
                        clear HB
                        have BK248 := n0_
                        have HB := n1_
                        clear n0_ n1_
                        have q54 : ((ji38) : Int) ≤ ((l0.length : Int) : Int) := of_decide_eq_true (by first | (with_reducible assumption) | assumption)
                        obtain ⟨i054, hi054, _, hsz54, _⟩ := info_parts info44
                        have hroom54 : l0.length ≤ c0 := HC0.out
                        have hC54 : Kd.C k44 _ A0 l0.length l0 := HR0.out
                        have ql54 : (x12_23 : Int) ≤ ((ji38) : Int) := of_decide_eq_true (by first | (with_reducible assumption) | assumption)
                        have q054 : (0 : Int) ≤ (x12_23 : Int) := of_decide_eq_true (by first | (with_reducible assumption) | assumption)
                        have hcut54 := cut_mid (P := Tryd.prog) 54 44 .i64 .i64 Tryd.underlying54 hi054 4 hsz54 A0 l0.length c0 x12_23 (ji38) q054 ql54 q54 hroom54
                        have hr54 := Kd.C_mid (lo := (x12_23 : Int).toNat) (hi := ((ji38) : Int).toNat) (c := c0) hC54 (by omega) (by omega) hroom54
                        obtain ⟨A54, hA54⟩ : ∃ A1, A1 = (if c0 = (x12_23 : Int).toNat then A0 else (A0 : Option Addr).map (·.add ((x12_23 : Int).toNat * 4))) := ⟨_, rfl⟩
                        obtain ⟨c54, hc54⟩ : ∃ c1, c1 = c0 - (x12_23 : Int).toNat := ⟨_, rfl⟩
                        have hy54 : y262.length = ((ji38) : Int).toNat - (x12_23 : Int).toNat := (by rw [Ny262.out, List.length_drop, List.length_take] <;> omega)
                        rw [show ((l0).take ((ji38) : Int).toNat).drop (x12_23 : Int).toNat = y262 from Ny262.out.symm] at hr54
                        replace hr54 : Kd.C k44 _ A54 y262.length y262 := (by rw [hA54]; exact hr54)
                        rw [← hy54, ← hA54, ← hc54] at hcut54
                        have HR265 := Aside0.mk hr54
                        have HC265 := Aside0.mk (show y262.length ≤ c54 from by rw [hy54, hc54]; exact Nat.sub_le_sub_right (Nat.le_trans (by omega) hroom54) _)
                        clear hr54 hC54 hroom54 hi054 hsz54 hc54
                        have KY54 := Aside0.mk hy54
                        have KA54 := Aside0.mk hA54
                        clear hy54 hA54
                        replace q54 := eq_true q54
                        have p269 : 0 ≤ ((ji49) : Int) := of_decide_eq_true (by first | (with_reducible assumption) | assumption)
                        have q269 : (ji49) < (l0.length : Int) := of_decide_eq_true (by first | (with_reducible assumption) | assumption)
                        obtain ⟨ad269, e269, hx269_0, hx269_1, hx269_2, hx269_3⟩ := at_T44 HR0.out (ji49) p269 q269
                        have hw269_3 := hx269_3
                        have hw269_2 := hx269_2
                        have hw269_1 := hx269_1
                        have hw269_0 := hx269_0
                        cases e269
                        replace hx269_0 := (HB.out.cell (World.block_lt_of_cell? w _ hx269_0)).trans hx269_0
                        replace hx269_1 := (HB.out.cell (World.block_lt_of_cell? w _ hx269_1)).trans hx269_1
                        replace hx269_2 := (HB.out.cell (World.block_lt_of_cell? w _ hx269_2)).trans hx269_2
                        replace hx269_3 := (HB.out.cell (World.block_lt_of_cell? w _ hx269_3)).trans hx269_3
                        replace p269 := eq_true p269
                        replace q269 := eq_true q269
                        refine start_ (n := 14) (S := fun w' => w'.cell? (ad269.add (((ji49)).toNat * 4)) = some (.int .i64 ((rd_T44 l0 (ji49)).f0.f0)) ∧ w'.cell? ⟨(ad269.add (((ji49)).toNat * 4)).block, (ad269.add (((ji49)).toNat * 4)).off + 1, none⟩ = some (.int .i64 ((rd_T44 l0 (ji49)).f0.f1)) ∧ w'.cell? ⟨(ad269.add (((ji49)).toNat * 4)).block, (ad269.add (((ji49)).toNat * 4)).off + 2, none⟩ = some (.int .i64 ((rd_T44 l0 (ji49)).f1)) ∧ w'.cell? ⟨(ad269.add (((ji49)).toNat * 4)).block, (ad269.add (((ji49)).toNat * 4)).off + 3, none⟩ = some (.int .i64 ((rd_T44 l0 (ji49)).f2))) (ds := []) #[false, false, false, false, false, false, false, false, false, false, false, false, false, false] (by kernel_rfl) rfl rfl ⟨((HB.out.cell (World.block_lt_of_cell? w _ hw269_0)).trans hw269_0), ((HB.out.cell (World.block_lt_of_cell? w _ hw269_1)).trans hw269_1), ((HB.out.cell (World.block_lt_of_cell? w _ hw269_2)).trans hw269_2), ((HB.out.cell (World.block_lt_of_cell? w _ hw269_3)).trans hw269_3)⟩ (fun hHeld => ?_); refine with_tabW page_Of.tab11 page_Of.bits11 (fun HT_ HW_ => ?_)
                        generalize wc.drew = w53 at BK248 HB HR265 hx269_0 hx269_1 hx269_2 hx269_3 hHeld ⊢
                        refine pure_ (i := 0) (N := some 69) (v := ?_) (a' := ?_) #[true, false, false, false, false, false, false, false, false, false, false, false, false, false] rfl rfl (any_of HT_.out (by kernel_rfl)) (fun _ _ _ h => h) (Or.inl ⟨by rfl, ?_⟩) ?_ ?_
                        rotate_left
                        · intro w'
                          go_simp
                          with_reducible rfl
                        rotate_left
                        · simp only [Act.put, List.setIfInBounds_toArray, List.set_cons_zero, List.set_cons_succ, i64_w, i32_w]
                          rfl
                        refine pure_ (i := 1) (N := some 70) (v := ?_) (a' := ?_) #[true, true, false, false, false, false, false, false, false, false, false, false, false, false] rfl rfl (any_of HT_.out (by kernel_rfl)) (fun _ _ _ h => h) (Or.inl ⟨by rfl, ?_⟩) ?_ ?_
                        rotate_left
                        · intro w'
                          go_simp
                          with_reducible rfl
                        rotate_left
                        · simp only [Act.put, List.setIfInBounds_toArray, List.set_cons_zero, List.set_cons_succ, i64_w, i32_w]
                          rfl
                        refine pure_ (i := 2) (N := some 71) (v := ?_) (a' := ?_) #[true, true, true, false, false, false, false, false, false, false, false, false, false, false] rfl rfl (any_of HT_.out (by kernel_rfl)) (fun _ _ _ h => h) (Or.inl ⟨by rfl, ?_⟩) ?_ ?_
                        rotate_left
                        · intro w'
                          go_simp
                          with_reducible rfl
                        rotate_left
                        · simp only [Act.put, List.setIfInBounds_toArray, List.set_cons_zero, List.set_cons_succ, i64_w, i32_w]
                          rfl
                        refine pure_ (i := 3) (N := some 72) (v := ?_) (a' := ?_) #[true, true, true, true, false, false, false, false, false, false, false, false, false, false] rfl rfl (any_of HT_.out (by kernel_rfl)) (fun _ _ _ h => h) (Or.inl ⟨by rfl, ?_⟩) ?_ ?_
                        rotate_left
                        · intro w'
                          go_simp
                          with_reducible rfl
                        rotate_left
                        · simp only [Act.put, List.setIfInBounds_toArray, List.set_cons_zero, List.set_cons_succ, i64_w, i32_w]
                          rfl
                        refine pure_ (i := 5) (N := some 74) (v := ?_) (a' := ?_) #[true, true, true, true, false, true, false, false, false, false, false, false, false, false] rfl rfl (any_of HT_.out (by kernel_rfl)) (fun _ _ _ h => h) (Or.inl ⟨by rfl, ?_⟩) ?_ ?_
                        rotate_left
                        · intro w'
                          go_simp
                          with_reducible rfl
                        rotate_left
                        · simp only [Act.put, List.setIfInBounds_toArray, List.set_cons_zero, List.set_cons_succ, i64_w, i32_w]
                          rfl
                        refine pure_ (i := 6) (N := some 75) (v := ?_) (a' := ?_) #[true, true, true, true, false, true, true, false, false, false, false, false, false, false] rfl rfl (any_of HT_.out (by kernel_rfl)) (fun _ _ _ h => h) (Or.inl ⟨by rfl, ?_⟩) ?_ ?_
                        rotate_left
                        · intro w'
                          go_simp
                          with_reducible rfl
                        rotate_left
                        · simp only [Act.put, List.setIfInBounds_toArray, List.set_cons_zero, List.set_cons_succ, i64_w, i32_w]
                          rfl
                        refine pure_ (i := 7) (N := some 76) (v := ?_) (a' := ?_) #[true, true, true, true, false, true, true, true, false, false, false, false, false, false] rfl rfl (any_of HT_.out (by kernel_rfl)) (fun _ _ _ h => h) (Or.inl ⟨by rfl, ?_⟩) ?_ ?_
                        rotate_left
                        · intro w'
                          go_simp
                          with_reducible rfl
                        rotate_left
                        · simp only [Act.put, List.setIfInBounds_toArray, List.set_cons_zero, List.set_cons_succ, i64_w, i32_w]
                          rfl
                        refine pure_ (i := 8) (N := some 77) (v := ?_) (a' := ?_) #[true, true, true, true, false, true, true, true, true, false, false, false, false, false] rfl rfl (any_of HT_.out (by kernel_rfl)) (fun _ _ _ h => h) (Or.inl ⟨by rfl, ?_⟩) ?_ ?_
                        rotate_left
                        · intro w'
                          go_simp
                          with_reducible rfl
                        rotate_left
                        · simp only [Act.put, List.setIfInBounds_toArray, List.set_cons_zero, List.set_cons_succ, i64_w, i32_w]
                          rfl
                        refine take_ (i := 9) (N := some 78) (v := ?_) (a' := ?_) #[true, true, true, true, false, true, true, true, true, true, false, false, false, false] rfl rfl (take_ofW HT_.out HW_.out (by kernel_rfl)) (fun _ _ _ h => h) (Or.inl ⟨by rfl, ?_⟩) hHeld ?_ ?_
                        rotate_left
                        · rintro w' ⟨s0, s1, s2, s3⟩
                          go_simp
                          with_reducible rfl
                        rotate_left
                        · simp only [Act.put, List.setIfInBounds_toArray, List.set_cons_zero, List.set_cons_succ, i64_w, i32_w]
                          rfl
                        refine one_ (i := 4) (N := some 73) #[true, true, true, true, true, true, true, true, true, true, false, false, false, false] rfl rfl (one_of HT_.out (by kernel_rfl)) (by decide) (fun K hK => ?_)
                        refine goes_ Tryd.func63 (by kernel_rfl) rfl #[.slice A54 y262.length c54] (by rfl) rfl rfl (by (try simp only [List.map_toArray, List.map_cons, List.map_nil]); first | done | rfl | (simp only [List.length_drop, List.length_take]; rfl)) ?_
                        with_reducible refine (page_copied.calls _ _ y262 t266 _ ?side1 ?side2 A48.out).mono ?_
                        (case side1 => repeat (first | exact (Kd.C_below HR265.out HB.out) | (with_reducible refine Kd.C_alloc ?_ _) | (with_reducible refine Kd.C_drewN ?_ _) | (with_reducible refine Kd.C_drew ?_)))
                        (case side2 => exact HC265.out)
                        rintro e w55 ⟨v267, rfl, ho0, hb⟩
                        refine ⟨_, rfl, ?_⟩
                        have n0_ := Aside0.mk (Kd.R_lower (Kd.R_newB ho0 (g := gb248) (o := .cells #[.int .i64 t243, .int .i64 t244, .int .i64 t245, .int .i64 t246] 44 (0, 0)) (by (with_reducible repeat (first | refine blk_drewN ?_ _ | refine blk_drew ?_ | refine blk_alloc ?_ _)); exact BK248.out)) (below_size (by repeat (first | (with_reducible first | exact HB.out | apply below_alloc | apply pw_below_drewN | apply below_drew1 | refine below_set ?_ GE248.out) | exact HB.out))))
                        have n1_ := Aside0.mk (blk_below (g := gb248) (o := .cells #[.int .i64 t243, .int .i64 t244, .int .i64 t245, .int .i64 t246] 44 (0, 0)) (by (with_reducible repeat (first | refine blk_drewN ?_ _ | refine blk_drew ?_ | refine blk_alloc ?_ _)); exact BK248.out) hb)
                        have n2_ := Aside0.mk (below_step (by repeat (first | (with_reducible first | exact HB.out | apply below_alloc | apply pw_below_drewN | apply below_drew1 | refine below_set ?_ GE248.out) | exact HB.out)) hb)
                        clear BK248
                        clear HB
                        have HO268 := n0_
                        have BK248 := n1_
                        have HB := n2_
                        clear n0_ n1_ n2_
                        (try clear hb)
                        (try clear hb2)
                        (try clear hk)
                        (try clear hi)
                        (try clear ho0)
                        refine hK.out _ _ ⟨((HB.out.cell (World.block_lt_of_cell? w _ hw269_0)).trans hw269_0), ((HB.out.cell (World.block_lt_of_cell? w _ hw269_1)).trans hw269_1), ((HB.out.cell (World.block_lt_of_cell? w _ hw269_2)).trans hw269_2), ((HB.out.cell (World.block_lt_of_cell? w _ hw269_3)).trans hw269_3)⟩ (fun hHeld => ?_)
                        clear hK K
                        refine norm_ (a' := ?_) ?_ ?_
                        rotate_left
                        · show Act.put _ (some 73) _ = _
                          simp only [Act.put, List.setIfInBounds_toArray, List.set_cons_zero, List.set_cons_succ, i64_w, i32_w]
                          rfl
                        refine one_ (i := 10) (N := some 79) #[true, true, true, true, true, true, true, true, true, true, true, false, false, false] rfl rfl (one_of HT_.out (by kernel_rfl)) (by decide) (fun K hK => ?_)
                        refine goes_ Tryd.func29 (by kernel_rfl) rfl #[.agg #[.int .i64 ((rd_T44 l0 (ji49)).f0.f0), .int .i64 ((rd_T44 l0 (ji49)).f0.f1), .int .i64 ((rd_T44 l0 (ji49)).f1), .int .i64 ((rd_T44 l0 (ji49)).f2)]] (by rfl) rfl rfl (by (try simp only [List.map_toArray, List.map_cons, List.map_nil]); first | done | (simp only [hji49]; rfl) | rfl | (simp only [List.length_drop, List.length_take]; rfl)) ?_
                        with_reducible refine (page_Key.calls ((rd_T44 l0 (ji49)).f0.f0) ((rd_T44 l0 (ji49)).f0.f1) ((rd_T44 l0 (ji49)).f1) ((rd_T44 l0 (ji49)).f2) t270 _ ?side1 A52.out).mono ?_
                        (case side1 => exact ⟨Good.below hG.out (by repeat (first | (with_reducible first | exact HB.out | apply below_alloc | apply pw_below_drewN | apply below_drew1 | refine below_set ?_ GE248.out) | exact HB.out))⟩)
                        rintro e w56 ⟨rfl, hb⟩
                        refine ⟨_, rfl, ?_⟩
                        have n0_ := Aside0.mk (Kd.R_below (by (with_reducible repeat (first | apply Kd.R_alloc | apply Kd.R_drewN | apply Kd.R_drew)); exact HO268.out) hb)
                        have n1_ := Aside0.mk (blk_below (g := gb248) (o := .cells #[.int .i64 t243, .int .i64 t244, .int .i64 t245, .int .i64 t246] 44 (0, 0)) (by (with_reducible repeat (first | refine blk_drewN ?_ _ | refine blk_drew ?_ | refine blk_alloc ?_ _)); exact BK248.out) hb)
                        have n2_ := Aside0.mk (below_step (by repeat (first | (with_reducible first | exact HB.out | apply below_alloc | apply pw_below_drewN | apply below_drew1 | refine below_set ?_ GE248.out) | exact HB.out)) hb)
                        clear HO268
                        clear BK248
                        clear HB
                        have HO268 := n0_
                        have BK248 := n1_
                        have HB := n2_
                        clear n0_ n1_ n2_
                        (try clear hb)
                        (try clear hb2)
                        (try clear hk)
                        (try clear hi)
                        refine hK.out _ _ ⟨((HB.out.cell (World.block_lt_of_cell? w _ hw269_0)).trans hw269_0), ((HB.out.cell (World.block_lt_of_cell? w _ hw269_1)).trans hw269_1), ((HB.out.cell (World.block_lt_of_cell? w _ hw269_2)).trans hw269_2), ((HB.out.cell (World.block_lt_of_cell? w _ hw269_3)).trans hw269_3)⟩ (fun hHeld => ?_)
                        clear hK K
                        refine norm_ (a' := ?_) ?_ ?_
                        rotate_left
                        · show Act.put _ (some 79) _ = _
                          simp only [Act.put, List.setIfInBounds_toArray, List.set_cons_zero, List.set_cons_succ, i64_w, i32_w]
                          rfl
                        refine pure_ (i := 11) (N := some 6) (v := ?_) (a' := ?_) #[true, true, true, true, true, true, true, true, true, true, true, true, false, false] rfl rfl (any_of HT_.out (by kernel_rfl)) (fun _ _ _ h => h) (Or.inl ⟨by rfl, ?_⟩) ?_ ?_
                        rotate_left
                        · intro w'
                          go_simp
                          with_reducible rfl
                        rotate_left
                        · simp only [Act.put, List.setIfInBounds_toArray, List.set_cons_zero, List.set_cons_succ, i64_w, i32_w]
                          rfl
                        refine pure_ (i := 12) (N := some 7) (v := ?_) (a' := ?_) #[true, true, true, true, true, true, true, true, true, true, true, true, true, false] rfl rfl (any_of HT_.out (by kernel_rfl)) (fun _ _ _ h => h) (Or.inl ⟨by rfl, ?_⟩) ?_ ?_
                        rotate_left
                        · intro w'
                          go_simp
                          with_reducible rfl
                        rotate_left
                        · simp only [Act.put, List.setIfInBounds_toArray, List.set_cons_zero, List.set_cons_succ, i64_w, i32_w]
                          rfl
                        refine pure_ (i := 13) (N := some 8) (v := ?_) (a' := ?_) #[true, true, true, true, true, true, true, true, true, true, true, true, true, true] rfl rfl (any_of HT_.out (by kernel_rfl)) (fun _ _ _ h => h) (Or.inl ⟨by rfl, ?_⟩) ?_ ?_
                        rotate_left
                        · intro w'
                          go_simp
                          with_reducible rfl
                        rotate_left
                        · simp only [Act.put, List.setIfInBounds_toArray, List.set_cons_zero, List.set_cons_succ, i64_w, i32_w]
                          rfl
                        refine done_ (done_of HT_.out (by kernel_rfl)) ?_
                        try go_wp2
                        go_ret3
                        exact ⟨_, by first | rfl | (simp [errW_none, errW_some] <;> rfl) | (simp only [← hji36, ← hji37, ← hji38, ← hji49]; first | rfl | (simp [errW_none, errW_some] <;> rfl)) | (simp [*, errW_none, errW_some] <;> rfl), by (with_reducible repeat (first | apply Kd.R_alloc | apply Kd.R_drewN | apply Kd.R_drew)); exact Kd.R_mono HO268.out (fun _ hk => trivial), by repeat (first | (with_reducible first | exact HB.out | apply below_alloc | apply pw_below_drewN | apply below_drew1 | refine below_set ?_ GE248.out) | exact HB.out)⟩
                      · rw [if_neg c51] at H
                        exact absurd H (by simp)
                    · rw [if_neg c50] at H
                      exact absurd H (by simp)
                  · rw [if_neg c47] at H
                    exact absurd H (by simp)
                · rw [if_neg c46] at H
                  exact absurd H (by simp)
              · rw [if_neg c45] at H
                exact absurd H (by simp)
end Go.Proofs.YtaedhehiifkcbaaDoor.PG
