import Derived.Test.YtaedhehiifkcbaaDoorSPageKeys3
import Derived.Lib.AtoiAll
import Derived.Laws.BitsAllLaws
import Derived.Lib.Join
import Derived.Lib.Split
import Derived.Lib.SplitLaws
import Derived.Lib.IndexBytes
namespace Go.Proofs.YtaedhehiifkcbaaDoor.PG
open Go.RowKit Go.Proofs.YtaedhehiifkcbaaDoorW.PrintWords Go.Proofs.YtaedhehiifkcbaaDoorW.PrintLast Go.Proofs.YtaedhehiifkcbaaDoorW.PrintMore
attribute [local go_sem] max2_int min2_int max_two min_two max_three min_three max_four min_four   -- for this text's walks alone
set_option linter.unusedVariables false
set_option linter.unusedSimpArgs false
attribute [local go_sem high] eqA39
def afterglowlaw14_PageKeys.j0 : Nat → ByteArray → ByteArray → Bool → Bool → Int → Int → Int → Int → Int → Int → Int → Int → Option (Bool)
  | 0, _, _, _, _, _, _, _, _, _, _, _, _ => none
  | k + 1, x1, x5, x7, x43, x332000, x332001, x332002, x332003, x344000, x344001, x344002, x344003 => if x43 = true then (none) else ((page_Parse.f x5).bind fun bt355 => ((afterglowlaw14_alive.f k).bind fun t361 => (if t361 = true then (if (bt355.2.2.2.2 == (x5.toList != ([] : List UInt8))) = true then (if bt355.2.2.2.2 = true then ((afterglowlaw08_Old.f bt355.1 bt355.2.1 bt355.2.2.1 bt355.2.2.2.1).bind fun bt362 => (if (bt362.1 == x332000 && (bt362.2.1 == x332001 && (bt362.2.2.1 == x332002 && (bt362.2.2.2 == x332003)))) = true then (if x7 = true then ((page_Key.f x344000 x344001 x344002 x344003).bind fun t366 => (some (t366.toList == x1.toList))) else (some true)) else (none))) else (if x7 = true then ((page_Key.f x344000 x344001 x344002 x344003).bind fun t367 => (some (t367.toList == x1.toList))) else (some true))) else (none)) else (none))))
def afterglowlaw14_PageKeys.f (k : Nat) (a0_0 : Int) (a0_1 : Int) (a0_2 : Int) (a0_3 : Int) (a1 : ByteArray) : Option (Bool) := if (a1.size : Int) > 200 then ((afterglowlaw14_alive.f k).bind fun t332 => (some t332)) else ((afterglowlaw08_New.f a0_0 a0_1 a0_2 a0_3).bind fun bt333 => ((page_Key.f bt333.1 bt333.2.1 bt333.2.2.1 bt333.2.2.2).bind fun t337 => ((page_Parse.f a1).bind fun bt338 => ((afterglowref14_Parse.f k a1).bind fun bt344 => ((afterglowref14_Key.f k a0_0 a0_1 a0_2 a0_3).bind fun t350 => (if t337.toList = t350.toList then ((afterglowlaw08_Old.f bt338.1 bt338.2.1 bt338.2.2.1 bt338.2.2.2.1).bind fun bt351 => (if (!(bt351.1 == bt344.1) || (!(bt351.2.1 == bt344.2.1) || (!(bt351.2.2.1 == bt344.2.2.1) || (!(bt351.2.2.2 == bt344.2.2.2.1))))) = true then (afterglowlaw14_PageKeys.j0 k a1 t337 bt338.2.2.2.2 true a0_0 a0_1 a0_2 a0_3 bt338.1 bt338.2.1 bt338.2.2.1 bt338.2.2.2.1) else (afterglowlaw14_PageKeys.j0 k a1 t337 bt338.2.2.2.2 (bt338.2.2.2.2 != bt344.2.2.2.2) a0_0 a0_1 a0_2 a0_3 bt338.1 bt338.2.1 bt338.2.2.1 bt338.2.2.2.1))) else (afterglowlaw14_PageKeys.j0 k a1 t337 bt338.2.2.2.2 true a0_0 a0_1 a0_2 a0_3 bt338.1 bt338.2.1 bt338.2.2.1 bt338.2.2.2.1)))))))
def afterglowlaw14_PageKeys.T6 : Bool × List (List Nat × List Nat) := (true, [([], []), ([], []), ([1], [1]), ([0, 2], [0, 2]), ([3, 2], [3]), ([4], [4]), ([5, 4, 4], [4, 5]), ([4], [4]), ([6, 7, 4], [4, 6, 7]), ([4, 8], [4, 8]), ([9, 6], [9]), ([10], [10]), ([10], [10]), ([11, 12, 10], [10, 11, 12]), ([10, 13], [10, 13])])
def afterglowlaw14_PageKeys.B6 : List Nat := [0, 0, 2, 7, 15, 31, 63, 31, 255, 511, 1023, 2047, 2047, 8191, 16383]
theorem afterglowlaw14_PageKeys.tab6 : rtab .any (opsOf Tryd.f9 6) = afterglowlaw14_PageKeys.T6 := by kernel_rfl
theorem afterglowlaw14_PageKeys.bits6 : waitsOk afterglowlaw14_PageKeys.T6.2 afterglowlaw14_PageKeys.B6 = true := by kernel_rfl
def afterglowlaw14_PageKeys.T9 : Bool × List (List Nat × List Nat) := (true, [([], []), ([0, 0], [0]), ([1], [1]), ([1], [1]), ([3, 1], [1, 3]), ([2, 4, 1], [1, 2, 4]), ([1, 5], [1, 5]), ([6, 1], [6]), ([7], [7]), ([8, 7], [7, 8]), ([9, 7, 7], [7, 9]), ([10], [10]), ([11, 10, 10], [10, 11]), ([10], [10]), ([12, 13, 10], [10, 12, 13]), ([10, 14, 7], [7, 10, 14]), ([7, 15], [7, 15]), ([16, 12], [16]), ([17], [17]), ([18, 17], [17, 18]), ([19, 17, 17], [17, 19]), ([20], [20]), ([21, 20, 20], [20, 21]), ([20], [20]), ([22, 23, 20], [20, 22, 23]), ([20, 24, 17], [17, 20, 24]), ([17, 25], [17, 25]), ([26, 22, 0, 1, 2, 3, 4, 5, 6, 7, 8, 9, 10, 11, 12, 13, 14, 15, 16, 17, 18, 19, 20, 21, 22, 23, 24, 25, 26], [26])])
def afterglowlaw14_PageKeys.B9 : List Nat := [0, 1, 3, 3, 11, 31, 63, 127, 255, 511, 1023, 2047, 4095, 2047, 16383, 32767, 65535, 131071, 262143, 524287, 1048575, 2097151, 4194303, 2097151, 16777215, 33554431, 67108863, 134217727]
theorem afterglowlaw14_PageKeys.tab9 : rtab .any (opsOf Tryd.f9 9) = afterglowlaw14_PageKeys.T9 := by kernel_rfl
theorem afterglowlaw14_PageKeys.bits9 : waitsOk afterglowlaw14_PageKeys.T9.2 afterglowlaw14_PageKeys.B9 = true := by kernel_rfl
set_option maxHeartbeats 8000000 in
set_option maxRecDepth 100000 in
theorem afterglowlaw14_PageKeys.calls (k : Nat) (a0_0 : Int) (a0_1 : Int) (a0_2 : Int) (a0_3 : Int) (a1 : ByteArray) (r : Bool) (w : World) (hG : Aside0 (Good w)) (h : afterglowlaw14_PageKeys.f k a0_0 a0_1 a0_2 a0_3 a1 = some r) :
    Calls Tryd.prog 9 #[.agg #[.int .i64 a0_0, .int .i64 a0_1, .int .i64 a0_2, .int .i64 a0_3], .string a1] w fun e w' => e = .returned (.bool r) ∧ Below w.heap.size w w' := by
  have hu39 := Tryd.underlying39
  have hu44 := Tryd.underlying44
  have HB := Aside0.mk (Below.refl w.heap.size w)
  have H : (if (a1.size : Int) > 200 then ((afterglowlaw14_alive.f k).bind fun t332 => (some t332)) else ((afterglowlaw08_New.f a0_0 a0_1 a0_2 a0_3).bind fun bt333 => ((page_Key.f bt333.1 bt333.2.1 bt333.2.2.1 bt333.2.2.2).bind fun t337 => ((page_Parse.f a1).bind fun bt338 => ((afterglowref14_Parse.f k a1).bind fun bt344 => ((afterglowref14_Key.f k a0_0 a0_1 a0_2 a0_3).bind fun t350 => (if t337.toList = t350.toList then ((afterglowlaw08_Old.f bt338.1 bt338.2.1 bt338.2.2.1 bt338.2.2.2.1).bind fun bt351 => (if (!(bt351.1 == bt344.1) || (!(bt351.2.1 == bt344.2.1) || (!(bt351.2.2.1 == bt344.2.2.1) || (!(bt351.2.2.2 == bt344.2.2.2.1))))) = true then (afterglowlaw14_PageKeys.j0 k a1 t337 bt338.2.2.2.2 true a0_0 a0_1 a0_2 a0_3 bt338.1 bt338.2.1 bt338.2.2.1 bt338.2.2.2.1) else (afterglowlaw14_PageKeys.j0 k a1 t337 bt338.2.2.2.2 (bt338.2.2.2.2 != bt344.2.2.2.2) a0_0 a0_1 a0_2 a0_3 bt338.1 bt338.2.1 bt338.2.2.1 bt338.2.2.2.1))) else (afterglowlaw14_PageKeys.j0 k a1 t337 bt338.2.2.2.2 true a0_0 a0_1 a0_2 a0_3 bt338.1 bt338.2.1 bt338.2.2.1 bt338.2.2.2.1)))))))) = some r := h
  clear h
  by_cases c3 : (a1.size : Int) > 200
  · rw [if_pos c3] at H
    have c3b0 : decide (200 < (a1.size : Int)) = true := decide_eq_true c3
    have c3b1 : decide (200 < a1.size) = true := decide_eq_true (by omega)
    clear c3
    replace H := Option.bind_eq_some_iff.mp H
    obtain ⟨t332, A40, H⟩ := H
    replace H : (some t332) = some r := H
    have A4 := Aside0.mk A40
    clear A40
    obtain rfl := Option.some.inj H
    go_enter Tryd.func9, Tryd.ntmps9
    go_wp2_with (first | ((with_reducible refine gate_dst (N := 2) rfl ?_); refine box_event ?hg (N := 2) ?hd (cs := #[.int .i64 a0_0, .int .i64 a0_1, .int .i64 a0_2, .int .i64 a0_3]) (t := 39) ?hr ?_; (case hd => rfl); (case hg => rfl); (case hr => first | (go_simp; done) | (go_simp; rfl)); intro gb331 hg w5 hbox hb; have n0_ := Aside0.mk (below_step (by repeat (first | (with_reducible first | exact HB.out | apply below_alloc | apply pw_below_drewN | apply below_drew1) | exact HB.out)) hb); have n1_ := Aside0.mk (hbox); have n2_ := Aside0.mk ((by rw [hg]; exact (below_size (by repeat (first | (with_reducible first | exact HB.out | apply below_alloc | apply pw_below_drewN | apply below_drew1) | exact HB.out))) : w.heap.size ≤ gb331)); have n3_ := Aside0.mk ((by rw [hg]; exact (below_size (by repeat (first | (with_reducible first | exact HB.out | apply below_alloc | apply pw_below_drewN | apply below_drew1) | exact HB.out))) : w.heap.size ≤ gb331)); clear HB; have HB := n0_; have BK331 := n1_; have GW331 := n2_; have GE331 := n3_; clear n0_ n1_ n2_ n3_; clear hb hbox hg) | ((with_reducible refine gate_callee (f := 28) rfl ?_); refine goesL_ (some 15) rfl rfl Tryd.func28 (by kernel_rfl) rfl #[] rfl (by (try simp only [List.map_toArray, List.map_cons, List.map_nil]); first | done | rfl | (simp only [List.length_drop, List.length_take]; rfl)) ?_; (with_reducible refine (afterglowlaw14_alive.calls k  t332 _ ?side1 A4.out).mono ?_); (case side1 => exact ⟨Good.below hG.out (by repeat (first | (with_reducible first | exact HB.out | apply below_alloc | apply pw_below_drewN | apply below_drew1 | refine below_set ?_ GE331.out) | exact HB.out))⟩); rintro e w6 ⟨rfl, hb⟩; refine ⟨_, rfl, ?_⟩; have n0_ := Aside0.mk (blk_below (g := gb331) (o := .cells #[.int .i64 a0_0, .int .i64 a0_1, .int .i64 a0_2, .int .i64 a0_3] 39 (0, 0)) (by (with_reducible repeat (first | refine blk_drewN ?_ _ | refine blk_drew ?_ | refine blk_alloc ?_ _)); exact BK331.out) hb); have n1_ := Aside0.mk (below_step (by repeat (first | (with_reducible first | exact HB.out | apply below_alloc | apply pw_below_drewN | apply below_drew1 | refine below_set ?_ GE331.out) | exact HB.out)) hb); clear BK331; clear HB; have BK331 := n0_; have HB := n1_; clear n0_ n1_; (try clear hb); (try clear hb2); (try clear hk); (try clear hi)))
    go_ret
    exact ⟨by first | rfl | (simp [errW_none, errW_some] <;> rfl) | (simp [*, errW_none, errW_some] <;> rfl), by repeat (first | (with_reducible first | exact HB.out | apply below_alloc | apply pw_below_drewN | apply below_drew1 | refine below_set ?_ GE331.out) | exact HB.out)⟩
  · rw [if_neg c3] at H
    have c3b0 : decide (200 < (a1.size : Int)) = false := decide_eq_false c3
    have c3b1 : decide (200 < a1.size) = false := decide_eq_false (by omega)
    clear c3
    replace H := Option.bind_eq_some_iff.mp H
    obtain ⟨⟨t333, t334, t335, t336⟩, A70, H⟩ := H
    replace H : ((page_Key.f t333 t334 t335 t336).bind fun t337 => ((page_Parse.f a1).bind fun bt338 => ((afterglowref14_Parse.f k a1).bind fun bt344 => ((afterglowref14_Key.f k a0_0 a0_1 a0_2 a0_3).bind fun t350 => (if t337.toList = t350.toList then ((afterglowlaw08_Old.f bt338.1 bt338.2.1 bt338.2.2.1 bt338.2.2.2.1).bind fun bt351 => (if (!(bt351.1 == bt344.1) || (!(bt351.2.1 == bt344.2.1) || (!(bt351.2.2.1 == bt344.2.2.1) || (!(bt351.2.2.2 == bt344.2.2.2.1))))) = true then (afterglowlaw14_PageKeys.j0 k a1 t337 bt338.2.2.2.2 true a0_0 a0_1 a0_2 a0_3 bt338.1 bt338.2.1 bt338.2.2.1 bt338.2.2.2.1) else (afterglowlaw14_PageKeys.j0 k a1 t337 bt338.2.2.2.2 (bt338.2.2.2.2 != bt344.2.2.2.2) a0_0 a0_1 a0_2 a0_3 bt338.1 bt338.2.1 bt338.2.2.1 bt338.2.2.2.1))) else (afterglowlaw14_PageKeys.j0 k a1 t337 bt338.2.2.2.2 true a0_0 a0_1 a0_2 a0_3 bt338.1 bt338.2.1 bt338.2.2.1 bt338.2.2.2.1)))))) = some r := H
    have A7 := Aside0.mk A70
    clear A70
    replace H := Option.bind_eq_some_iff.mp H
    obtain ⟨t337, A80, H⟩ := H
    replace H : ((page_Parse.f a1).bind fun bt338 => ((afterglowref14_Parse.f k a1).bind fun bt344 => ((afterglowref14_Key.f k a0_0 a0_1 a0_2 a0_3).bind fun t350 => (if t337.toList = t350.toList then ((afterglowlaw08_Old.f bt338.1 bt338.2.1 bt338.2.2.1 bt338.2.2.2.1).bind fun bt351 => (if (!(bt351.1 == bt344.1) || (!(bt351.2.1 == bt344.2.1) || (!(bt351.2.2.1 == bt344.2.2.1) || (!(bt351.2.2.2 == bt344.2.2.2.1))))) = true then (afterglowlaw14_PageKeys.j0 k a1 t337 bt338.2.2.2.2 true a0_0 a0_1 a0_2 a0_3 bt338.1 bt338.2.1 bt338.2.2.1 bt338.2.2.2.1) else (afterglowlaw14_PageKeys.j0 k a1 t337 bt338.2.2.2.2 (bt338.2.2.2.2 != bt344.2.2.2.2) a0_0 a0_1 a0_2 a0_3 bt338.1 bt338.2.1 bt338.2.2.1 bt338.2.2.2.1))) else (afterglowlaw14_PageKeys.j0 k a1 t337 bt338.2.2.2.2 true a0_0 a0_1 a0_2 a0_3 bt338.1 bt338.2.1 bt338.2.2.1 bt338.2.2.2.1))))) = some r := H
    have A8 := Aside0.mk A80
    clear A80
    replace H := Option.bind_eq_some_iff.mp H
    obtain ⟨⟨t338, t339, t340, t341, t342⟩, A90, H⟩ := H
    replace H : ((afterglowref14_Parse.f k a1).bind fun bt344 => ((afterglowref14_Key.f k a0_0 a0_1 a0_2 a0_3).bind fun t350 => (if t337.toList = t350.toList then ((afterglowlaw08_Old.f t338 t339 t340 t341).bind fun bt351 => (if (!(bt351.1 == bt344.1) || (!(bt351.2.1 == bt344.2.1) || (!(bt351.2.2.1 == bt344.2.2.1) || (!(bt351.2.2.2 == bt344.2.2.2.1))))) = true then (afterglowlaw14_PageKeys.j0 k a1 t337 t342 true a0_0 a0_1 a0_2 a0_3 t338 t339 t340 t341) else (afterglowlaw14_PageKeys.j0 k a1 t337 t342 (t342 != bt344.2.2.2.2) a0_0 a0_1 a0_2 a0_3 t338 t339 t340 t341))) else (afterglowlaw14_PageKeys.j0 k a1 t337 t342 true a0_0 a0_1 a0_2 a0_3 t338 t339 t340 t341)))) = some r := H
    have A9 := Aside0.mk A90
    clear A90
    replace H := Option.bind_eq_some_iff.mp H
    obtain ⟨⟨t344, t345, t346, t347, t348⟩, A100, H⟩ := H
    replace H : ((afterglowref14_Key.f k a0_0 a0_1 a0_2 a0_3).bind fun t350 => (if t337.toList = t350.toList then ((afterglowlaw08_Old.f t338 t339 t340 t341).bind fun bt351 => (if (!(bt351.1 == t344) || (!(bt351.2.1 == t345) || (!(bt351.2.2.1 == t346) || (!(bt351.2.2.2 == t347))))) = true then (afterglowlaw14_PageKeys.j0 k a1 t337 t342 true a0_0 a0_1 a0_2 a0_3 t338 t339 t340 t341) else (afterglowlaw14_PageKeys.j0 k a1 t337 t342 (t342 != t348) a0_0 a0_1 a0_2 a0_3 t338 t339 t340 t341))) else (afterglowlaw14_PageKeys.j0 k a1 t337 t342 true a0_0 a0_1 a0_2 a0_3 t338 t339 t340 t341))) = some r := H
    have A10 := Aside0.mk A100
    clear A100
    have HC11 := Aside0.mk H
    clear H
    go_enter Tryd.func9, Tryd.ntmps9
    go_upto_region 6 with (first | ((with_reducible refine gate_dst (N := 2) rfl ?_); refine box_event ?hg (N := 2) ?hd (cs := #[.int .i64 a0_0, .int .i64 a0_1, .int .i64 a0_2, .int .i64 a0_3]) (t := 39) ?hr ?_; (case hd => rfl); (case hg => rfl); (case hr => first | (go_simp; done) | (go_simp; rfl)); intro gb331 hg w12 hbox hb; have n0_ := Aside0.mk (below_step (by repeat (first | (with_reducible first | exact HB.out | apply below_alloc | apply pw_below_drewN | apply below_drew1) | exact HB.out)) hb); have n1_ := Aside0.mk (hbox); have n2_ := Aside0.mk ((by rw [hg]; exact (below_size (by repeat (first | (with_reducible first | exact HB.out | apply below_alloc | apply pw_below_drewN | apply below_drew1) | exact HB.out))) : w.heap.size ≤ gb331)); have n3_ := Aside0.mk ((by rw [hg]; exact (below_size (by repeat (first | (with_reducible first | exact HB.out | apply below_alloc | apply pw_below_drewN | apply below_drew1) | exact HB.out))) : w.heap.size ≤ gb331)); clear HB; have HB := n0_; have BK331 := n1_; have GW331 := n2_; have GE331 := n3_; clear n0_ n1_ n2_ n3_; clear hb hbox hg; have hcz13_0 : w12.cell? ⟨gb331, 0, none⟩ = some (.int .i64 a0_0) := (blk_cell BK331.out 0).trans rfl; have hcz13_1 : w12.cell? ⟨gb331, 1, none⟩ = some (.int .i64 a0_1) := (blk_cell BK331.out 1).trans rfl; have hcz13_2 : w12.cell? ⟨gb331, 2, none⟩ = some (.int .i64 a0_2) := (blk_cell BK331.out 2).trans rfl; have hcz13_3 : w12.cell? ⟨gb331, 3, none⟩ = some (.int .i64 a0_3) := (blk_cell BK331.out 3).trans rfl; have hfz13_0 := blk_frozen BK331.out 0; have hfz13_1 := blk_frozen BK331.out 1; have hfz13_2 := blk_frozen BK331.out 2; have hfz13_3 := blk_frozen BK331.out 3) | ((with_reducible refine gate_callee (f := 30) rfl ?_); refine goesL_ (some 17) rfl rfl Tryd.func30 (by kernel_rfl) rfl #[.agg #[.int .i64 a0_0, .int .i64 a0_1, .int .i64 a0_2, .int .i64 a0_3]] rfl (by (try simp only [List.map_toArray, List.map_cons, List.map_nil]); first | done | rfl | (simp only [List.length_drop, List.length_take]; rfl)) ?_; (with_reducible refine (afterglowlaw08_New.calls a0_0 a0_1 a0_2 a0_3 t333 t334 t335 t336 _ A7.out).mono ?_); rintro e w14 ⟨rfl, hb⟩; refine ⟨_, rfl, ?_⟩; have n0_ := Aside0.mk (blk_below (g := gb331) (o := .cells #[.int .i64 a0_0, .int .i64 a0_1, .int .i64 a0_2, .int .i64 a0_3] 39 (0, 0)) (by (with_reducible repeat (first | refine blk_drewN ?_ _ | refine blk_drew ?_ | refine blk_alloc ?_ _)); exact BK331.out) hb); have n1_ := Aside0.mk (below_step (by repeat (first | (with_reducible first | exact HB.out | apply below_alloc | apply pw_below_drewN | apply below_drew1 | refine below_set ?_ GE331.out) | exact HB.out)) hb); clear BK331; clear HB; have BK331 := n0_; have HB := n1_; clear n0_ n1_; (try clear hb); (try clear hb2); (try clear hk); (try clear hi)) | ((with_reducible refine gate_callee (f := 29) rfl ?_); refine goesL_ (some 18) rfl rfl Tryd.func29 (by kernel_rfl) rfl #[.agg #[.int .i64 t333, .int .i64 t334, .int .i64 t335, .int .i64 t336]] rfl (by (try simp only [List.map_toArray, List.map_cons, List.map_nil]); first | done | rfl | (simp only [List.length_drop, List.length_take]; rfl)) ?_; (with_reducible refine (page_Key.calls t333 t334 t335 t336 t337 _ ?side1 A8.out).mono ?_); (case side1 => exact ⟨Good.below hG.out (by repeat (first | (with_reducible first | exact HB.out | apply below_alloc | apply pw_below_drewN | apply below_drew1 | refine below_set ?_ GE331.out) | exact HB.out))⟩); rintro e w15 ⟨rfl, hb⟩; refine ⟨_, rfl, ?_⟩; have n0_ := Aside0.mk (blk_below (g := gb331) (o := .cells #[.int .i64 a0_0, .int .i64 a0_1, .int .i64 a0_2, .int .i64 a0_3] 39 (0, 0)) (by (with_reducible repeat (first | refine blk_drewN ?_ _ | refine blk_drew ?_ | refine blk_alloc ?_ _)); exact BK331.out) hb); have n1_ := Aside0.mk (below_step (by repeat (first | (with_reducible first | exact HB.out | apply below_alloc | apply pw_below_drewN | apply below_drew1 | refine below_set ?_ GE331.out) | exact HB.out)) hb); clear BK331; clear HB; have BK331 := n0_; have HB := n1_; clear n0_ n1_; (try clear hb); (try clear hb2); (try clear hk); (try clear hi)) | ((with_reducible refine gate_callee (f := 31) rfl ?_); refine goesL_ (some 21) rfl rfl Tryd.func31 (by kernel_rfl) rfl #[.string a1] rfl (by (try simp only [List.map_toArray, List.map_cons, List.map_nil]); first | done | rfl | (simp only [List.length_drop, List.length_take]; rfl)) ?_; (with_reducible refine (page_Parse.calls a1 t338 t339 t340 t341 t342 _ ?side1 A9.out).mono ?_); (case side1 => exact ⟨Good.below hG.out (by repeat (first | (with_reducible first | exact HB.out | apply below_alloc | apply pw_below_drewN | apply below_drew1 | refine below_set ?_ GE331.out) | exact HB.out))⟩); rintro e w16 ⟨rfl, hb⟩; refine ⟨_, rfl, ?_⟩; have n0_ := Aside0.mk (blk_below (g := gb331) (o := .cells #[.int .i64 a0_0, .int .i64 a0_1, .int .i64 a0_2, .int .i64 a0_3] 39 (0, 0)) (by (with_reducible repeat (first | refine blk_drewN ?_ _ | refine blk_drew ?_ | refine blk_alloc ?_ _)); exact BK331.out) hb); have n1_ := Aside0.mk (below_step (by repeat (first | (with_reducible first | exact HB.out | apply below_alloc | apply pw_below_drewN | apply below_drew1 | refine below_set ?_ GE331.out) | exact HB.out)) hb); clear BK331; clear HB; have BK331 := n0_; have HB := n1_; clear n0_ n1_; (try clear hb); (try clear hb2); (try clear hk); (try clear hi)) | ((with_reducible refine gate_dst (N := 6) rfl ?_); refine box_event ?hg (N := 6) ?hd (cs := #[.int .i64 0, .int .i64 0, .int .i64 0, .int .i64 0]) (t := 44) ?hr ?_; (case hd => rfl); (case hg => rfl); (case hr => first | (go_simp; done) | (go_simp; rfl)); intro gb343 hg w17 hbox hb; have n0_ := Aside0.mk (blk_below (g := gb331) (o := .cells #[.int .i64 a0_0, .int .i64 a0_1, .int .i64 a0_2, .int .i64 a0_3] 39 (0, 0)) (by (with_reducible repeat (first | refine blk_drewN ?_ _ | refine blk_drew ?_ | refine blk_alloc ?_ _)); exact BK331.out) hb); have n1_ := Aside0.mk (below_step (by repeat (first | (with_reducible first | exact HB.out | apply below_alloc | apply pw_below_drewN | apply below_drew1 | refine below_set ?_ GE331.out) | exact HB.out)) hb); have n2_ := Aside0.mk (hbox); have n3_ := Aside0.mk ((by rw [hg]; exact (below_size (by repeat (first | (with_reducible first | exact HB.out | apply below_alloc | apply pw_below_drewN | apply below_drew1 | refine below_set ?_ GE331.out) | exact HB.out))) : w.heap.size ≤ gb343)); have n4_ := Aside0.mk ((by rw [hg]; exact (below_size (by repeat (first | (with_reducible first | exact HB.out | apply below_alloc | apply pw_below_drewN | apply below_drew1 | refine below_set ?_ GE331.out) | exact HB.out))) : w.heap.size ≤ gb343)); have n5_ := Aside0.mk ((by rw [hg]; exact Nat.ne_of_lt (blk_lt (g := gb331) (o := .cells #[.int .i64 a0_0, .int .i64 a0_1, .int .i64 a0_2, .int .i64 a0_3] 39 (0, 0)) (by (with_reducible repeat (first | refine blk_drewN ?_ _ | refine blk_drew ?_ | refine blk_alloc ?_ _)); exact BK331.out)) : gb331 ≠ gb343)); have n6_ := Aside0.mk ((by rw [hg]; exact Nat.ne_of_gt (blk_lt (g := gb331) (o := .cells #[.int .i64 a0_0, .int .i64 a0_1, .int .i64 a0_2, .int .i64 a0_3] 39 (0, 0)) (by (with_reducible repeat (first | refine blk_drewN ?_ _ | refine blk_drew ?_ | refine blk_alloc ?_ _)); exact BK331.out)) : gb343 ≠ gb331)); clear BK331; clear HB; have BK331 := n0_; have HB := n1_; have BK343 := n2_; have GW343 := n3_; have GE343 := n4_; have NB331_343 := n5_; have NB343_331 := n6_; clear n0_ n1_ n2_ n3_ n4_ n5_ n6_; clear hb hbox hg; have hnb18 := NB343_331.out; have hnc18 := NB331_343.out; have hcz19_0 : w17.cell? ⟨gb343, 0, none⟩ = some (.int .i64 0) := (blk_cell BK343.out 0).trans rfl; have hcz19_1 : w17.cell? ⟨gb343, 1, none⟩ = some (.int .i64 0) := (blk_cell BK343.out 1).trans rfl; have hcz19_2 : w17.cell? ⟨gb343, 2, none⟩ = some (.int .i64 0) := (blk_cell BK343.out 2).trans rfl; have hcz19_3 : w17.cell? ⟨gb343, 3, none⟩ = some (.int .i64 0) := (blk_cell BK343.out 3).trans rfl; have hfz19_0 := blk_frozen BK343.out 0; have hfz19_1 := blk_frozen BK343.out 1; have hfz19_2 := blk_frozen BK343.out 2; have hfz19_3 := blk_frozen BK343.out 3) | ((with_reducible refine gate_callee (f := 32) rfl ?_); refine goesL_ (some 26) rfl rfl Tryd.func32 (by kernel_rfl) rfl #[.string a1] rfl (by (try simp only [List.map_toArray, List.map_cons, List.map_nil]); first | done | rfl | (simp only [List.length_drop, List.length_take]; rfl)) ?_; (with_reducible refine (afterglowref14_Parse.calls k a1 t344 t345 t346 t347 t348 _ A10.out).mono ?_); rintro e w20 ⟨rfl, hb⟩; refine ⟨_, rfl, ?_⟩; have n0_ := Aside0.mk (blk_below (g := gb331) (o := .cells #[.int .i64 a0_0, .int .i64 a0_1, .int .i64 a0_2, .int .i64 a0_3] 39 (0, 0)) (by (with_reducible repeat (first | refine blk_drewN ?_ _ | refine blk_drew ?_ | refine blk_alloc ?_ _)); refine blk_far ?_ NB331_343.out _; (with_reducible repeat (first | refine blk_drewN ?_ _ | refine blk_drew ?_ | refine blk_alloc ?_ _)); refine blk_far ?_ NB331_343.out _; (with_reducible repeat (first | refine blk_drewN ?_ _ | refine blk_drew ?_ | refine blk_alloc ?_ _)); refine blk_far ?_ NB331_343.out _; (with_reducible repeat (first | refine blk_drewN ?_ _ | refine blk_drew ?_ | refine blk_alloc ?_ _)); refine blk_far ?_ NB331_343.out _; (with_reducible repeat (first | refine blk_drewN ?_ _ | refine blk_drew ?_ | refine blk_alloc ?_ _)); exact BK331.out) hb); have n1_ := Aside0.mk (blk_below (g := gb343) (o := .cells #[.int .i64 t338, .int .i64 t339, .int .i64 t340, .int .i64 t341] 44 (0, 0)) (by (with_reducible repeat (first | refine blk_drewN ?_ _ | refine blk_drew ?_ | refine blk_alloc ?_ _)); refine blk_put (cs := #[.int .i64 t338, .int .i64 t339, .int .i64 t340, .int .i64 0]) ?_ 3 _ rfl; (with_reducible repeat (first | refine blk_drewN ?_ _ | refine blk_drew ?_ | refine blk_alloc ?_ _)); refine blk_put (cs := #[.int .i64 t338, .int .i64 t339, .int .i64 0, .int .i64 0]) ?_ 2 _ rfl; (with_reducible repeat (first | refine blk_drewN ?_ _ | refine blk_drew ?_ | refine blk_alloc ?_ _)); refine blk_put (cs := #[.int .i64 t338, .int .i64 0, .int .i64 0, .int .i64 0]) ?_ 1 _ rfl; (with_reducible repeat (first | refine blk_drewN ?_ _ | refine blk_drew ?_ | refine blk_alloc ?_ _)); refine blk_put (cs := #[.int .i64 0, .int .i64 0, .int .i64 0, .int .i64 0]) ?_ 0 _ rfl; (with_reducible repeat (first | refine blk_drewN ?_ _ | refine blk_drew ?_ | refine blk_alloc ?_ _)); exact BK343.out) hb); have n2_ := Aside0.mk (below_step (by repeat (first | (with_reducible first | exact HB.out | apply below_alloc | apply pw_below_drewN | apply below_drew1 | refine below_set ?_ GE331.out | refine below_set ?_ GE343.out) | exact HB.out)) hb); clear BK331; clear BK343; clear HB; have BK331 := n0_; have BK343 := n1_; have HB := n2_; clear n0_ n1_ n2_; (try clear hb); (try clear hb2); (try clear hk); (try clear hi)) | ((with_reducible refine gate_dst (N := 8) rfl ?_); refine box_event ?hg (N := 8) ?hd (cs := #[.int .i64 0, .int .i64 0, .int .i64 0, .int .i64 0]) (t := 39) ?hr ?_; (case hd => rfl); (case hg => rfl); (case hr => first | (go_simp; done) | (go_simp; rfl)); intro gb349 hg w21 hbox hb; have n0_ := Aside0.mk (blk_below (g := gb331) (o := .cells #[.int .i64 a0_0, .int .i64 a0_1, .int .i64 a0_2, .int .i64 a0_3] 39 (0, 0)) (by (with_reducible repeat (first | refine blk_drewN ?_ _ | refine blk_drew ?_ | refine blk_alloc ?_ _)); exact BK331.out) hb); have n1_ := Aside0.mk (blk_below (g := gb343) (o := .cells #[.int .i64 t338, .int .i64 t339, .int .i64 t340, .int .i64 t341] 44 (0, 0)) (by (with_reducible repeat (first | refine blk_drewN ?_ _ | refine blk_drew ?_ | refine blk_alloc ?_ _)); exact BK343.out) hb); have n2_ := Aside0.mk (below_step (by repeat (first | (with_reducible first | exact HB.out | apply below_alloc | apply pw_below_drewN | apply below_drew1 | refine below_set ?_ GE331.out | refine below_set ?_ GE343.out) | exact HB.out)) hb); have n3_ := Aside0.mk (hbox); have n4_ := Aside0.mk ((by rw [hg]; exact (below_size (by repeat (first | (with_reducible first | exact HB.out | apply below_alloc | apply pw_below_drewN | apply below_drew1 | refine below_set ?_ GE331.out | refine below_set ?_ GE343.out) | exact HB.out))) : w.heap.size ≤ gb349)); have n5_ := Aside0.mk ((by rw [hg]; exact (below_size (by repeat (first | (with_reducible first | exact HB.out | apply below_alloc | apply pw_below_drewN | apply below_drew1 | refine below_set ?_ GE331.out | refine below_set ?_ GE343.out) | exact HB.out))) : w.heap.size ≤ gb349)); have n6_ := Aside0.mk ((by rw [hg]; exact Nat.ne_of_lt (blk_lt (g := gb331) (o := .cells #[.int .i64 a0_0, .int .i64 a0_1, .int .i64 a0_2, .int .i64 a0_3] 39 (0, 0)) (by (with_reducible repeat (first | refine blk_drewN ?_ _ | refine blk_drew ?_ | refine blk_alloc ?_ _)); exact BK331.out)) : gb331 ≠ gb349)); have n7_ := Aside0.mk ((by rw [hg]; exact Nat.ne_of_gt (blk_lt (g := gb331) (o := .cells #[.int .i64 a0_0, .int .i64 a0_1, .int .i64 a0_2, .int .i64 a0_3] 39 (0, 0)) (by (with_reducible repeat (first | refine blk_drewN ?_ _ | refine blk_drew ?_ | refine blk_alloc ?_ _)); exact BK331.out)) : gb349 ≠ gb331)); have n8_ := Aside0.mk ((by rw [hg]; exact Nat.ne_of_lt (blk_lt (g := gb343) (o := .cells #[.int .i64 t338, .int .i64 t339, .int .i64 t340, .int .i64 t341] 44 (0, 0)) (by (with_reducible repeat (first | refine blk_drewN ?_ _ | refine blk_drew ?_ | refine blk_alloc ?_ _)); exact BK343.out)) : gb343 ≠ gb349)); have n9_ := Aside0.mk ((by rw [hg]; exact Nat.ne_of_gt (blk_lt (g := gb343) (o := .cells #[.int .i64 t338, .int .i64 t339, .int .i64 t340, .int .i64 t341] 44 (0, 0)) (by (with_reducible repeat (first | refine blk_drewN ?_ _ | refine blk_drew ?_ | refine blk_alloc ?_ _)); exact BK343.out)) : gb349 ≠ gb343)); clear BK331; clear BK343; clear HB; have BK331 := n0_; have BK343 := n1_; have HB := n2_; have BK349 := n3_; have GW349 := n4_; have GE349 := n5_; have NB331_349 := n6_; have NB349_331 := n7_; have NB343_349 := n8_; have NB349_343 := n9_; clear n0_ n1_ n2_ n3_ n4_ n5_ n6_ n7_ n8_ n9_; clear hb hbox hg; have hnb22 := NB349_331.out; have hnc22 := NB331_349.out; have hnb23 := NB349_343.out; have hnc23 := NB343_349.out; have hcz24_0 : w21.cell? ⟨gb349, 0, none⟩ = some (.int .i64 0) := (blk_cell BK349.out 0).trans rfl; have hcz24_1 : w21.cell? ⟨gb349, 1, none⟩ = some (.int .i64 0) := (blk_cell BK349.out 1).trans rfl; have hcz24_2 : w21.cell? ⟨gb349, 2, none⟩ = some (.int .i64 0) := (blk_cell BK349.out 2).trans rfl; have hcz24_3 : w21.cell? ⟨gb349, 3, none⟩ = some (.int .i64 0) := (blk_cell BK349.out 3).trans rfl; have hfz24_0 := blk_frozen BK349.out 0; have hfz24_1 := blk_frozen BK349.out 1; have hfz24_2 := blk_frozen BK349.out 2; have hfz24_3 := blk_frozen BK349.out 3))
    (try simp only [Act.put, List.setIfInBounds_toArray, List.set_cons_zero, List.set_cons_succ])
    go_cut [43] (fun v43 wc => ∃ (kq : Nat) (x43_10 : Bool), v43 = .bool x43_10 ∧ Aside0 (afterglowlaw14_PageKeys.j0 kq a1 t337 t342 x43_10 a0_0 a0_1 a0_2 a0_3 t338 t339 t340 t341 = some r) ∧ Aside0 (kq ≤ k) ∧ Aside0 (wc.heap[gb331]? = some (.cells #[.int .i64 a0_0, .int .i64 a0_1, .int .i64 a0_2, .int .i64 a0_3] 39 (0, 0))) ∧ Aside0 (wc.heap[gb343]? = some (.cells #[.int .i64 t338, .int .i64 t339, .int .i64 t340, .int .i64 t341] 44 (0, 0))) ∧ Aside0 (wc.heap[gb349]? = some (.cells #[.int .i64 t344, .int .i64 t345, .int .i64 t346, .int .i64 t347] 39 (0, 0))) ∧ Aside0 (Below w.heap.size w wc))
    case first =>
      have H := HC11.out
      clear HC11
      replace H := Option.bind_eq_some_iff.mp H
      obtain ⟨t350, A250, H⟩ := H
      replace H : (if t337.toList = t350.toList then ((afterglowlaw08_Old.f t338 t339 t340 t341).bind fun bt351 => (if (!(bt351.1 == t344) || (!(bt351.2.1 == t345) || (!(bt351.2.2.1 == t346) || (!(bt351.2.2.2 == t347))))) = true then (afterglowlaw14_PageKeys.j0 k a1 t337 t342 true a0_0 a0_1 a0_2 a0_3 t338 t339 t340 t341) else (afterglowlaw14_PageKeys.j0 k a1 t337 t342 (t342 != t348) a0_0 a0_1 a0_2 a0_3 t338 t339 t340 t341))) else (afterglowlaw14_PageKeys.j0 k a1 t337 t342 true a0_0 a0_1 a0_2 a0_3 t338 t339 t340 t341)) = some r := H
      have A25 := Aside0.mk A250
      clear A250
      by_cases c26 : t337.toList = t350.toList
      · rw [if_pos c26] at H
        have c26b0 : (t337.toList == t350.toList) = true := beq_iff_eq.mpr c26
        have c26b1 : (t337.toList != t350.toList) = false := bne_eq_false_iff_eq.mpr c26
        clear c26
        (first | rw [c26b0] | (simp only [i64_w, i32_w]; rw [c26b0]) | skip)
        replace H := Option.bind_eq_some_iff.mp H
        obtain ⟨⟨t351, t352, t353, t354⟩, A270, H⟩ := H
        replace H : (if (!(t351 == t344) || (!(t352 == t345) || (!(t353 == t346) || (!(t354 == t347))))) = true then (afterglowlaw14_PageKeys.j0 k a1 t337 t342 true a0_0 a0_1 a0_2 a0_3 t338 t339 t340 t341) else (afterglowlaw14_PageKeys.j0 k a1 t337 t342 (t342 != t348) a0_0 a0_1 a0_2 a0_3 t338 t339 t340 t341)) = some r := H
        have A27 := Aside0.mk A270
        clear A270
        by_cases c28 : (!(t351 == t344) || (!(t352 == t345) || (!(t353 == t346) || (!(t354 == t347))))) = true
        · rw [if_pos c28] at H
          have c28b0 : (!(t351 == t344) || (!(t352 == t345) || (!(t353 == t346) || (!(t354 == t347))))) = true := c28
          clear c28
          have H' := Aside0.mk H
          clear H
          try go_wp2
          have n0_ : Aside0 (((((w21.setCell ⟨gb349, 0, none⟩ (.int .i64 t344)).setCell ⟨gb349, 1, none⟩ (.int .i64 t345)).setCell ⟨gb349, 2, none⟩ (.int .i64 t346)).setCell ⟨gb349, 3, none⟩ (.int .i64 t347)).heap[gb331]? = some (.cells #[.int .i64 a0_0, .int .i64 a0_1, .int .i64 a0_2, .int .i64 a0_3] 39 (0, 0))) := ⟨by (with_reducible repeat (first | refine blk_drewN ?_ _ | refine blk_drew ?_ | refine blk_alloc ?_ _)); refine blk_far ?_ NB331_349.out _; (with_reducible repeat (first | refine blk_drewN ?_ _ | refine blk_drew ?_ | refine blk_alloc ?_ _)); refine blk_far ?_ NB331_349.out _; (with_reducible repeat (first | refine blk_drewN ?_ _ | refine blk_drew ?_ | refine blk_alloc ?_ _)); refine blk_far ?_ NB331_349.out _; (with_reducible repeat (first | refine blk_drewN ?_ _ | refine blk_drew ?_ | refine blk_alloc ?_ _)); refine blk_far ?_ NB331_349.out _; (with_reducible repeat (first | refine blk_drewN ?_ _ | refine blk_drew ?_ | refine blk_alloc ?_ _)); exact BK331.out⟩
          have n1_ : Aside0 (((((w21.setCell ⟨gb349, 0, none⟩ (.int .i64 t344)).setCell ⟨gb349, 1, none⟩ (.int .i64 t345)).setCell ⟨gb349, 2, none⟩ (.int .i64 t346)).setCell ⟨gb349, 3, none⟩ (.int .i64 t347)).heap[gb343]? = some (.cells #[.int .i64 t338, .int .i64 t339, .int .i64 t340, .int .i64 t341] 44 (0, 0))) := ⟨by (with_reducible repeat (first | refine blk_drewN ?_ _ | refine blk_drew ?_ | refine blk_alloc ?_ _)); refine blk_far ?_ NB343_349.out _; (with_reducible repeat (first | refine blk_drewN ?_ _ | refine blk_drew ?_ | refine blk_alloc ?_ _)); refine blk_far ?_ NB343_349.out _; (with_reducible repeat (first | refine blk_drewN ?_ _ | refine blk_drew ?_ | refine blk_alloc ?_ _)); refine blk_far ?_ NB343_349.out _; (with_reducible repeat (first | refine blk_drewN ?_ _ | refine blk_drew ?_ | refine blk_alloc ?_ _)); refine blk_far ?_ NB343_349.out _; (with_reducible repeat (first | refine blk_drewN ?_ _ | refine blk_drew ?_ | refine blk_alloc ?_ _)); exact BK343.out⟩
          have n2_ : Aside0 (((((w21.setCell ⟨gb349, 0, none⟩ (.int .i64 t344)).setCell ⟨gb349, 1, none⟩ (.int .i64 t345)).setCell ⟨gb349, 2, none⟩ (.int .i64 t346)).setCell ⟨gb349, 3, none⟩ (.int .i64 t347)).heap[gb349]? = some (.cells #[.int .i64 t344, .int .i64 t345, .int .i64 t346, .int .i64 t347] 39 (0, 0))) := ⟨by (with_reducible repeat (first | refine blk_drewN ?_ _ | refine blk_drew ?_ | refine blk_alloc ?_ _)); refine blk_put (cs := #[.int .i64 t344, .int .i64 t345, .int .i64 t346, .int .i64 0]) ?_ 3 _ rfl; (with_reducible repeat (first | refine blk_drewN ?_ _ | refine blk_drew ?_ | refine blk_alloc ?_ _)); refine blk_put (cs := #[.int .i64 t344, .int .i64 t345, .int .i64 0, .int .i64 0]) ?_ 2 _ rfl; (with_reducible repeat (first | refine blk_drewN ?_ _ | refine blk_drew ?_ | refine blk_alloc ?_ _)); refine blk_put (cs := #[.int .i64 t344, .int .i64 0, .int .i64 0, .int .i64 0]) ?_ 1 _ rfl; (with_reducible repeat (first | refine blk_drewN ?_ _ | refine blk_drew ?_ | refine blk_alloc ?_ _)); refine blk_put (cs := #[.int .i64 0, .int .i64 0, .int .i64 0, .int .i64 0]) ?_ 0 _ rfl; (with_reducible repeat (first | refine blk_drewN ?_ _ | refine blk_drew ?_ | refine blk_alloc ?_ _)); exact BK349.out⟩
          have n3_ : Aside0 (Below w.heap.size w ((((w21.setCell ⟨gb349, 0, none⟩ (.int .i64 t344)).setCell ⟨gb349, 1, none⟩ (.int .i64 t345)).setCell ⟨gb349, 2, none⟩ (.int .i64 t346)).setCell ⟨gb349, 3, none⟩ (.int .i64 t347))) := ⟨by repeat (first | (with_reducible first | exact HB.out | apply below_alloc | apply pw_below_drewN | apply below_drew1 | refine below_set ?_ GE331.out | refine below_set ?_ GE343.out | refine below_set ?_ GE349.out) | exact HB.out)⟩
          (try clear BK331)
          (try clear BK343)
          (try clear BK349)
          (try clear HB)
          generalize ((((w21.setCell ⟨gb349, 0, none⟩ (.int .i64 t344)).setCell ⟨gb349, 1, none⟩ (.int .i64 t345)).setCell ⟨gb349, 2, none⟩ (.int .i64 t346)).setCell ⟨gb349, 3, none⟩ (.int .i64 t347)) = w29 at n0_ n1_ n2_ n3_ ⊢
          have BK331 := n0_
          have BK343 := n1_
          have BK349 := n2_
          have HB := n3_
          clear n0_ n1_ n2_ n3_
          have n0_ := Aside0.mk (blk_drew BK331.out)
          have n1_ := Aside0.mk (blk_drew BK343.out)
          have n2_ := Aside0.mk (blk_drew BK349.out)
          have n3_ := Aside0.mk (below_drew1 HB.out)
          clear BK331
          clear BK343
          clear BK349
          clear HB
          have BK331 := n0_
          have BK343 := n1_
          have BK349 := n2_
          have HB := n3_
          clear n0_ n1_ n2_ n3_
          refine start_ (n := 15) (S := fun w' => w'.cell? ⟨gb331, 0, none⟩ = some (.int .i64 a0_0) ∧ w'.cell? ⟨gb331, 1, none⟩ = some (.int .i64 a0_1) ∧ w'.cell? ⟨gb331, 2, none⟩ = some (.int .i64 a0_2) ∧ w'.cell? ⟨gb331, 3, none⟩ = some (.int .i64 a0_3) ∧ w'.cell? ⟨gb343, 0, none⟩ = some (.int .i64 t338) ∧ w'.cell? ⟨gb343, 1, none⟩ = some (.int .i64 t339) ∧ w'.cell? ⟨gb343, 2, none⟩ = some (.int .i64 t340) ∧ w'.cell? ⟨gb343, 3, none⟩ = some (.int .i64 t341) ∧ w'.cell? ⟨gb349, 0, none⟩ = some (.int .i64 t344) ∧ w'.cell? ⟨gb349, 1, none⟩ = some (.int .i64 t345) ∧ w'.cell? ⟨gb349, 2, none⟩ = some (.int .i64 t346) ∧ w'.cell? ⟨gb349, 3, none⟩ = some (.int .i64 t347)) (ds := []) #[false, false, false, false, false, false, false, false, false, false, false, false, false, false, false] (by kernel_rfl) rfl rfl ⟨(blk_cell BK331.out 0).trans rfl, (blk_cell BK331.out 1).trans rfl, (blk_cell BK331.out 2).trans rfl, (blk_cell BK331.out 3).trans rfl, (blk_cell BK343.out 0).trans rfl, (blk_cell BK343.out 1).trans rfl, (blk_cell BK343.out 2).trans rfl, (blk_cell BK343.out 3).trans rfl, (blk_cell BK349.out 0).trans rfl, (blk_cell BK349.out 1).trans rfl, (blk_cell BK349.out 2).trans rfl, (blk_cell BK349.out 3).trans rfl⟩ (fun hHeld => ?_); refine with_tabW afterglowlaw14_PageKeys.tab6 afterglowlaw14_PageKeys.bits6 (fun HT_ HW_ => ?_)
          generalize w29.drew = w30 at BK331 BK343 BK349 HB hHeld ⊢
          refine pure_ (i := 0) (N := some 29) (v := ?_) (a' := ?_) #[true, false, false, false, false, false, false, false, false, false, false, false, false, false, false] rfl rfl (any_of HT_.out (by kernel_rfl)) (fun _ _ _ h => h) (Or.inl ⟨by rfl, ?_⟩) ?_ ?_
          rotate_left
          · intro w'
            go_simp
            with_reducible rfl
          rotate_left
          · simp only [Act.put, List.setIfInBounds_toArray, List.set_cons_zero, List.set_cons_succ, i64_w, i32_w]
            rfl
          refine take_ (i := 1) (N := some 30) (v := ?_) (a' := ?_) #[true, true, false, false, false, false, false, false, false, false, false, false, false, false, false] rfl rfl (take_ofW HT_.out HW_.out (by kernel_rfl)) (fun _ _ _ h => h) (Or.inl ⟨by rfl, ?_⟩) hHeld ?_ ?_
          rotate_left
          · rintro w' ⟨s0, s1, s2, s3, s4, s5, s6, s7, s8, s9, s10, s11⟩
            go_simp
            with_reducible rfl
          rotate_left
          · simp only [Act.put, List.setIfInBounds_toArray, List.set_cons_zero, List.set_cons_succ, i64_w, i32_w]
            rfl
          refine one_ (i := 2) (N := some 31) #[true, true, true, false, false, false, false, false, false, false, false, false, false, false, false] rfl rfl (one_of HT_.out (by kernel_rfl)) (by decide) (fun K hK => ?_)
          refine goes_ Tryd.func33 (by kernel_rfl) rfl #[.agg #[.int .i64 a0_0, .int .i64 a0_1, .int .i64 a0_2, .int .i64 a0_3]] (by rfl) rfl rfl (by (try simp only [List.map_toArray, List.map_cons, List.map_nil]); first | done | rfl | (simp only [List.length_drop, List.length_take]; rfl)) ?_
          with_reducible refine (afterglowref14_Key.calls k a0_0 a0_1 a0_2 a0_3 t350 _ A25.out).mono ?_
          rintro e w31 ⟨rfl, hb⟩
          refine ⟨_, rfl, ?_⟩
          have n0_ := Aside0.mk (blk_below (g := gb331) (o := .cells #[.int .i64 a0_0, .int .i64 a0_1, .int .i64 a0_2, .int .i64 a0_3] 39 (0, 0)) (by (with_reducible repeat (first | refine blk_drewN ?_ _ | refine blk_drew ?_ | refine blk_alloc ?_ _)); exact BK331.out) hb)
          have n1_ := Aside0.mk (blk_below (g := gb343) (o := .cells #[.int .i64 t338, .int .i64 t339, .int .i64 t340, .int .i64 t341] 44 (0, 0)) (by (with_reducible repeat (first | refine blk_drewN ?_ _ | refine blk_drew ?_ | refine blk_alloc ?_ _)); exact BK343.out) hb)
          have n2_ := Aside0.mk (blk_below (g := gb349) (o := .cells #[.int .i64 t344, .int .i64 t345, .int .i64 t346, .int .i64 t347] 39 (0, 0)) (by (with_reducible repeat (first | refine blk_drewN ?_ _ | refine blk_drew ?_ | refine blk_alloc ?_ _)); exact BK349.out) hb)
          have n3_ := Aside0.mk (below_step (by repeat (first | (with_reducible first | exact HB.out | apply below_alloc | apply pw_below_drewN | apply below_drew1 | refine below_set ?_ GE331.out | refine below_set ?_ GE343.out | refine below_set ?_ GE349.out) | exact HB.out)) hb)
          clear BK331
          clear BK343
          clear BK349
          clear HB
          have BK331 := n0_
          have BK343 := n1_
          have BK349 := n2_
          have HB := n3_
          clear n0_ n1_ n2_ n3_
          (try clear hb)
          (try clear hb2)
          (try clear hk)
          (try clear hi)
          refine hK.out _ _ ⟨(blk_cell BK331.out 0).trans rfl, (blk_cell BK331.out 1).trans rfl, (blk_cell BK331.out 2).trans rfl, (blk_cell BK331.out 3).trans rfl, (blk_cell BK343.out 0).trans rfl, (blk_cell BK343.out 1).trans rfl, (blk_cell BK343.out 2).trans rfl, (blk_cell BK343.out 3).trans rfl, (blk_cell BK349.out 0).trans rfl, (blk_cell BK349.out 1).trans rfl, (blk_cell BK349.out 2).trans rfl, (blk_cell BK349.out 3).trans rfl⟩ (fun hHeld => ?_)
          clear hK K
          refine norm_ (a' := ?_) ?_ ?_
          rotate_left
          · show Act.put _ (some 31) _ = _
            simp only [Act.put, List.setIfInBounds_toArray, List.set_cons_zero, List.set_cons_succ, i64_w, i32_w]
            rfl
          refine pure_ (i := 3) (N := some 32) (v := ?_) (a' := ?_) #[true, true, true, true, false, false, false, false, false, false, false, false, false, false, false] rfl rfl (any_of HT_.out (by kernel_rfl)) (fun _ _ _ h => h) (Or.inl ⟨by rfl, ?_⟩) ?_ ?_
          rotate_left
          · intro w'
            go_simp
            with_reducible rfl
          rotate_left
          · simp only [Act.put, List.setIfInBounds_toArray, List.set_cons_zero, List.set_cons_succ, i64_w, i32_w]
            rfl
          refine pure_ (i := 4) (N := some 33) (v := ?_) (a' := ?_) #[true, true, true, true, true, false, false, false, false, false, false, false, false, false, false] rfl rfl (any_of HT_.out (by kernel_rfl)) (fun _ _ _ h => h) (Or.inl ⟨by rfl, ?_⟩) ?_ ?_
          rotate_left
          · intro w'
            go_simp
            with_reducible rfl
          rotate_left
          · simp only [Act.put, List.setIfInBounds_toArray, List.set_cons_zero, List.set_cons_succ, i64_w, i32_w]
            rfl
          refine take_ (i := 5) (N := some 34) (v := ?_) (a' := ?_) #[true, true, true, true, true, true, false, false, false, false, false, false, false, false, false] rfl rfl (take_ofW HT_.out HW_.out (by kernel_rfl)) (fun _ _ _ h => h) (Or.inl ⟨by rfl, ?_⟩) hHeld ?_ ?_
          rotate_left
          · rintro w' ⟨s0, s1, s2, s3, s4, s5, s6, s7, s8, s9, s10, s11⟩
            go_simp
            with_reducible rfl
          rotate_left
          · simp only [Act.put, List.setIfInBounds_toArray, List.set_cons_zero, List.set_cons_succ, i64_w, i32_w]
            rfl
          refine take_ (i := 7) (N := some 36) (v := ?_) (a' := ?_) #[true, true, true, true, true, true, false, true, false, false, false, false, false, false, false] rfl rfl (take_ofW HT_.out HW_.out (by kernel_rfl)) (fun _ _ _ h => h) (Or.inl ⟨by rfl, ?_⟩) hHeld ?_ ?_
          rotate_left
          · rintro w' ⟨s0, s1, s2, s3, s4, s5, s6, s7, s8, s9, s10, s11⟩
            go_simp
            with_reducible rfl
          rotate_left
          · simp only [Act.put, List.setIfInBounds_toArray, List.set_cons_zero, List.set_cons_succ, i64_w, i32_w]
            rfl
          refine one_ (i := 6) (N := some 35) #[true, true, true, true, true, true, true, true, false, false, false, false, false, false, false] rfl rfl (one_of HT_.out (by kernel_rfl)) (by decide) (fun K hK => ?_)
          refine goes_ Tryd.func34 (by kernel_rfl) rfl #[.agg #[.int .i64 t338, .int .i64 t339, .int .i64 t340, .int .i64 t341]] (by rfl) rfl rfl (by (try simp only [List.map_toArray, List.map_cons, List.map_nil]); first | done | rfl | (simp only [List.length_drop, List.length_take]; rfl)) ?_
          with_reducible refine (afterglowlaw08_Old.calls t338 t339 t340 t341 t351 t352 t353 t354 _ A27.out).mono ?_
          rintro e w32 ⟨rfl, hb⟩
          refine ⟨_, rfl, ?_⟩
          have n0_ := Aside0.mk (blk_below (g := gb331) (o := .cells #[.int .i64 a0_0, .int .i64 a0_1, .int .i64 a0_2, .int .i64 a0_3] 39 (0, 0)) (by (with_reducible repeat (first | refine blk_drewN ?_ _ | refine blk_drew ?_ | refine blk_alloc ?_ _)); exact BK331.out) hb)
          have n1_ := Aside0.mk (blk_below (g := gb343) (o := .cells #[.int .i64 t338, .int .i64 t339, .int .i64 t340, .int .i64 t341] 44 (0, 0)) (by (with_reducible repeat (first | refine blk_drewN ?_ _ | refine blk_drew ?_ | refine blk_alloc ?_ _)); exact BK343.out) hb)
          have n2_ := Aside0.mk (blk_below (g := gb349) (o := .cells #[.int .i64 t344, .int .i64 t345, .int .i64 t346, .int .i64 t347] 39 (0, 0)) (by (with_reducible repeat (first | refine blk_drewN ?_ _ | refine blk_drew ?_ | refine blk_alloc ?_ _)); exact BK349.out) hb)
          have n3_ := Aside0.mk (below_step (by repeat (first | (with_reducible first | exact HB.out | apply below_alloc | apply pw_below_drewN | apply below_drew1 | refine below_set ?_ GE331.out | refine below_set ?_ GE343.out | refine below_set ?_ GE349.out) | exact HB.out)) hb)
          clear BK331
          clear BK343
          clear BK349
          clear HB
          have BK331 := n0_
          have BK343 := n1_
          have BK349 := n2_
          have HB := n3_
          clear n0_ n1_ n2_ n3_
          (try clear hb)
          (try clear hb2)
          (try clear hk)
          (try clear hi)
          refine hK.out _ _ ⟨(blk_cell BK331.out 0).trans rfl, (blk_cell BK331.out 1).trans rfl, (blk_cell BK331.out 2).trans rfl, (blk_cell BK331.out 3).trans rfl, (blk_cell BK343.out 0).trans rfl, (blk_cell BK343.out 1).trans rfl, (blk_cell BK343.out 2).trans rfl, (blk_cell BK343.out 3).trans rfl, (blk_cell BK349.out 0).trans rfl, (blk_cell BK349.out 1).trans rfl, (blk_cell BK349.out 2).trans rfl, (blk_cell BK349.out 3).trans rfl⟩ (fun hHeld => ?_)
          clear hK K
          refine norm_ (a' := ?_) ?_ ?_
          rotate_left
          · show Act.put _ (some 35) _ = _
            simp only [Act.put, List.setIfInBounds_toArray, List.set_cons_zero, List.set_cons_succ, i64_w, i32_w]
            rfl
          refine pure_ (i := 8) (N := some 37) (v := ?_) (a' := ?_) #[true, true, true, true, true, true, true, true, true, false, false, false, false, false, false] rfl rfl (any_of HT_.out (by kernel_rfl)) (fun _ _ _ h => h) (Or.inl ⟨by rfl, ?_⟩) ?_ ?_
          rotate_left
          · intro w'
            go_simp
            with_reducible rfl
          rotate_left
          · simp only [Act.put, List.setIfInBounds_toArray, List.set_cons_zero, List.set_cons_succ, i64_w, i32_w]
            rfl
          refine pure_ (i := 9) (N := some 38) (v := ?_) (a' := ?_) #[true, true, true, true, true, true, true, true, true, true, false, false, false, false, false] rfl rfl (any_of HT_.out (by kernel_rfl)) (fun _ _ _ h => h) (Or.inl ⟨by rfl, ?_⟩) ?_ ?_
          rotate_left
          · intro w'
            go_simp
            with_reducible rfl
          rotate_left
          · simp only [Act.put, List.setIfInBounds_toArray, List.set_cons_zero, List.set_cons_succ, i64_w, i32_w]
            rfl
          refine pure_ (i := 10) (N := some 39) (v := ?_) (a' := ?_) #[true, true, true, true, true, true, true, true, true, true, true, false, false, false, false] rfl rfl (any_of HT_.out (by kernel_rfl)) (fun _ _ _ h => h) (Or.inl ⟨by rfl, ?_⟩) ?_ ?_
          rotate_left
          · intro w'
            go_simp
            with_reducible rfl
          rotate_left
          · simp only [Act.put, List.setIfInBounds_toArray, List.set_cons_zero, List.set_cons_succ, i64_w, i32_w]
            rfl
          refine pure_ (i := 11) (N := some 40) (v := undef) (a' := ?_) #[true, true, true, true, true, true, true, true, true, true, true, true, false, false, false] rfl rfl (any_of HT_.out (by kernel_rfl)) (fun _ _ _ h => h) (Or.inr ⟨by rfl, rfl⟩) ?_ ?_
          rotate_left
          · simp only [Act.put, List.setIfInBounds_toArray, List.set_cons_zero, List.set_cons_succ, i64_w, i32_w]
            rfl
          refine pure_ (i := 12) (N := some 41) (v := undef) (a' := ?_) #[true, true, true, true, true, true, true, true, true, true, true, true, true, false, false] rfl rfl (any_of HT_.out (by kernel_rfl)) (fun _ _ _ h => h) (Or.inr ⟨by rfl, rfl⟩) ?_ ?_
          rotate_left
          · simp only [Act.put, List.setIfInBounds_toArray, List.set_cons_zero, List.set_cons_succ, i64_w, i32_w]
            rfl
          refine pure_ (i := 13) (N := some 42) (v := undef) (a' := ?_) #[true, true, true, true, true, true, true, true, true, true, true, true, true, true, false] rfl rfl (any_of HT_.out (by kernel_rfl)) (fun _ _ _ h => h) (Or.inr ⟨by rfl, rfl⟩) ?_ ?_
          rotate_left
          · simp only [Act.put, List.setIfInBounds_toArray, List.set_cons_zero, List.set_cons_succ, i64_w, i32_w]
            rfl
          refine pure_ (i := 14) (N := some 43) (v := ?_) (a' := ?_) #[true, true, true, true, true, true, true, true, true, true, true, true, true, true, true] rfl rfl (any_of HT_.out (by kernel_rfl)) (fun _ _ _ h => h) (Or.inl ⟨by rfl, ?_⟩) ?_ ?_
          rotate_left
          · intro w'
            go_simp
            with_reducible rfl
          rotate_left
          · simp only [Act.put, List.setIfInBounds_toArray, List.set_cons_zero, List.set_cons_succ, i64_w, i32_w]
            rfl
          refine done_ (done_of HT_.out (by kernel_rfl)) ?_
          try go_wp2
          go_meet
          case rel => exact ⟨_, (true), (by first | rfl | (simp; done) | (simp [*]; done)), H', ⟨by first | omega | exact Nat.le_refl _⟩, ⟨by (with_reducible repeat (first | refine blk_drewN ?_ _ | refine blk_drew ?_ | refine blk_alloc ?_ _)); exact BK331.out⟩, ⟨by (with_reducible repeat (first | refine blk_drewN ?_ _ | refine blk_drew ?_ | refine blk_alloc ?_ _)); exact BK343.out⟩, ⟨by (with_reducible repeat (first | refine blk_drewN ?_ _ | refine blk_drew ?_ | refine blk_alloc ?_ _)); exact BK349.out⟩, ⟨by repeat (first | (with_reducible first | exact HB.out | apply below_alloc | apply pw_below_drewN | apply below_drew1 | refine below_set ?_ GE331.out | refine below_set ?_ GE343.out | refine below_set ?_ GE349.out) | exact HB.out)⟩⟩
        · rw [if_neg c28] at H
          have c28b0 : (!(t351 == t344) || (!(t352 == t345) || (!(t353 == t346) || (!(t354 == t347))))) = false := by simpa using c28
          clear c28
          have H' := Aside0.mk H
          clear H
          try go_wp2
          have n0_ : Aside0 (((((w21.setCell ⟨gb349, 0, none⟩ (.int .i64 t344)).setCell ⟨gb349, 1, none⟩ (.int .i64 t345)).setCell ⟨gb349, 2, none⟩ (.int .i64 t346)).setCell ⟨gb349, 3, none⟩ (.int .i64 t347)).heap[gb331]? = some (.cells #[.int .i64 a0_0, .int .i64 a0_1, .int .i64 a0_2, .int .i64 a0_3] 39 (0, 0))) := ⟨by (with_reducible repeat (first | refine blk_drewN ?_ _ | refine blk_drew ?_ | refine blk_alloc ?_ _)); refine blk_far ?_ NB331_349.out _; (with_reducible repeat (first | refine blk_drewN ?_ _ | refine blk_drew ?_ | refine blk_alloc ?_ _)); refine blk_far ?_ NB331_349.out _; (with_reducible repeat (first | refine blk_drewN ?_ _ | refine blk_drew ?_ | refine blk_alloc ?_ _)); refine blk_far ?_ NB331_349.out _; (with_reducible repeat (first | refine blk_drewN ?_ _ | refine blk_drew ?_ | refine blk_alloc ?_ _)); refine blk_far ?_ NB331_349.out _; (with_reducible repeat (first | refine blk_drewN ?_ _ | refine blk_drew ?_ | refine blk_alloc ?_ _)); exact BK331.out⟩
          have n1_ : Aside0 (((((w21.setCell ⟨gb349, 0, none⟩ (.int .i64 t344)).setCell ⟨gb349, 1, none⟩ (.int .i64 t345)).setCell ⟨gb349, 2, none⟩ (.int .i64 t346)).setCell ⟨gb349, 3, none⟩ (.int .i64 t347)).heap[gb343]? = some (.cells #[.int .i64 t338, .int .i64 t339, .int .i64 t340, .int .i64 t341] 44 (0, 0))) := ⟨by (with_reducible repeat (first | refine blk_drewN ?_ _ | refine blk_drew ?_ | refine blk_alloc ?_ _)); refine blk_far ?_ NB343_349.out _; (with_reducible repeat (first | refine blk_drewN ?_ _ | refine blk_drew ?_ | refine blk_alloc ?_ _)); refine blk_far ?_ NB343_349.out _; (with_reducible repeat (first | refine blk_drewN ?_ _ | refine blk_drew ?_ | refine blk_alloc ?_ _)); refine blk_far ?_ NB343_349.out _; (with_reducible repeat (first | refine blk_drewN ?_ _ | refine blk_drew ?_ | refine blk_alloc ?_ _)); refine blk_far ?_ NB343_349.out _; (with_reducible repeat (first | refine blk_drewN ?_ _ | refine blk_drew ?_ | refine blk_alloc ?_ _)); exact BK343.out⟩
          have n2_ : Aside0 (((((w21.setCell ⟨gb349, 0, none⟩ (.int .i64 t344)).setCell ⟨gb349, 1, none⟩ (.int .i64 t345)).setCell ⟨gb349, 2, none⟩ (.int .i64 t346)).setCell ⟨gb349, 3, none⟩ (.int .i64 t347)).heap[gb349]? = some (.cells #[.int .i64 t344, .int .i64 t345, .int .i64 t346, .int .i64 t347] 39 (0, 0))) := ⟨by (with_reducible repeat (first | refine blk_drewN ?_ _ | refine blk_drew ?_ | refine blk_alloc ?_ _)); refine blk_put (cs := #[.int .i64 t344, .int .i64 t345, .int .i64 t346, .int .i64 0]) ?_ 3 _ rfl; (with_reducible repeat (first | refine blk_drewN ?_ _ | refine blk_drew ?_ | refine blk_alloc ?_ _)); refine blk_put (cs := #[.int .i64 t344, .int .i64 t345, .int .i64 0, .int .i64 0]) ?_ 2 _ rfl; (with_reducible repeat (first | refine blk_drewN ?_ _ | refine blk_drew ?_ | refine blk_alloc ?_ _)); refine blk_put (cs := #[.int .i64 t344, .int .i64 0, .int .i64 0, .int .i64 0]) ?_ 1 _ rfl; (with_reducible repeat (first | refine blk_drewN ?_ _ | refine blk_drew ?_ | refine blk_alloc ?_ _)); refine blk_put (cs := #[.int .i64 0, .int .i64 0, .int .i64 0, .int .i64 0]) ?_ 0 _ rfl; (with_reducible repeat (first | refine blk_drewN ?_ _ | refine blk_drew ?_ | refine blk_alloc ?_ _)); exact BK349.out⟩
          have n3_ : Aside0 (Below w.heap.size w ((((w21.setCell ⟨gb349, 0, none⟩ (.int .i64 t344)).setCell ⟨gb349, 1, none⟩ (.int .i64 t345)).setCell ⟨gb349, 2, none⟩ (.int .i64 t346)).setCell ⟨gb349, 3, none⟩ (.int .i64 t347))) := ⟨by repeat (first | (with_reducible first | exact HB.out | apply below_alloc | apply pw_below_drewN | apply below_drew1 | refine below_set ?_ GE331.out | refine below_set ?_ GE343.out | refine below_set ?_ GE349.out) | exact HB.out)⟩
          (try clear BK331)
          (try clear BK343)
          (try clear BK349)
          (try clear HB)
          generalize ((((w21.setCell ⟨gb349, 0, none⟩ (.int .i64 t344)).setCell ⟨gb349, 1, none⟩ (.int .i64 t345)).setCell ⟨gb349, 2, none⟩ (.int .i64 t346)).setCell ⟨gb349, 3, none⟩ (.int .i64 t347)) = w33 at n0_ n1_ n2_ n3_ ⊢
          have BK331 := n0_
          have BK343 := n1_
          have BK349 := n2_
          have HB := n3_
          clear n0_ n1_ n2_ n3_
          have n0_ := Aside0.mk (blk_drew BK331.out)
          have n1_ := Aside0.mk (blk_drew BK343.out)
          have n2_ := Aside0.mk (blk_drew BK349.out)
          have n3_ := Aside0.mk (below_drew1 HB.out)
          clear BK331
          clear BK343
          clear BK349
          clear HB
          have BK331 := n0_
          have BK343 := n1_
          have BK349 := n2_
          have HB := n3_
          clear n0_ n1_ n2_ n3_
          refine start_ (n := 15) (S := fun w' => w'.cell? ⟨gb331, 0, none⟩ = some (.int .i64 a0_0) ∧ w'.cell? ⟨gb331, 1, none⟩ = some (.int .i64 a0_1) ∧ w'.cell? ⟨gb331, 2, none⟩ = some (.int .i64 a0_2) ∧ w'.cell? ⟨gb331, 3, none⟩ = some (.int .i64 a0_3) ∧ w'.cell? ⟨gb343, 0, none⟩ = some (.int .i64 t338) ∧ w'.cell? ⟨gb343, 1, none⟩ = some (.int .i64 t339) ∧ w'.cell? ⟨gb343, 2, none⟩ = some (.int .i64 t340) ∧ w'.cell? ⟨gb343, 3, none⟩ = some (.int .i64 t341) ∧ w'.cell? ⟨gb349, 0, none⟩ = some (.int .i64 t344) ∧ w'.cell? ⟨gb349, 1, none⟩ = some (.int .i64 t345) ∧ w'.cell? ⟨gb349, 2, none⟩ = some (.int .i64 t346) ∧ w'.cell? ⟨gb349, 3, none⟩ = some (.int .i64 t347)) (ds := []) #[false, false, false, false, false, false, false, false, false, false, false, false, false, false, false] (by kernel_rfl) rfl rfl ⟨(blk_cell BK331.out 0).trans rfl, (blk_cell BK331.out 1).trans rfl, (blk_cell BK331.out 2).trans rfl, (blk_cell BK331.out 3).trans rfl, (blk_cell BK343.out 0).trans rfl, (blk_cell BK343.out 1).trans rfl, (blk_cell BK343.out 2).trans rfl, (blk_cell BK343.out 3).trans rfl, (blk_cell BK349.out 0).trans rfl, (blk_cell BK349.out 1).trans rfl, (blk_cell BK349.out 2).trans rfl, (blk_cell BK349.out 3).trans rfl⟩ (fun hHeld => ?_); refine with_tabW afterglowlaw14_PageKeys.tab6 afterglowlaw14_PageKeys.bits6 (fun HT_ HW_ => ?_)
          generalize w33.drew = w34 at BK331 BK343 BK349 HB hHeld ⊢
          refine pure_ (i := 0) (N := some 29) (v := ?_) (a' := ?_) #[true, false, false, false, false, false, false, false, false, false, false, false, false, false, false] rfl rfl (any_of HT_.out (by kernel_rfl)) (fun _ _ _ h => h) (Or.inl ⟨by rfl, ?_⟩) ?_ ?_
          rotate_left
          · intro w'
            go_simp
            with_reducible rfl
          rotate_left
          · simp only [Act.put, List.setIfInBounds_toArray, List.set_cons_zero, List.set_cons_succ, i64_w, i32_w]
            rfl
          refine take_ (i := 1) (N := some 30) (v := ?_) (a' := ?_) #[true, true, false, false, false, false, false, false, false, false, false, false, false, false, false] rfl rfl (take_ofW HT_.out HW_.out (by kernel_rfl)) (fun _ _ _ h => h) (Or.inl ⟨by rfl, ?_⟩) hHeld ?_ ?_
          rotate_left
          · rintro w' ⟨s0, s1, s2, s3, s4, s5, s6, s7, s8, s9, s10, s11⟩
            go_simp
            with_reducible rfl
          rotate_left
          · simp only [Act.put, List.setIfInBounds_toArray, List.set_cons_zero, List.set_cons_succ, i64_w, i32_w]
            rfl
          refine one_ (i := 2) (N := some 31) #[true, true, true, false, false, false, false, false, false, false, false, false, false, false, false] rfl rfl (one_of HT_.out (by kernel_rfl)) (by decide) (fun K hK => ?_)
          refine goes_ Tryd.func33 (by kernel_rfl) rfl #[.agg #[.int .i64 a0_0, .int .i64 a0_1, .int .i64 a0_2, .int .i64 a0_3]] (by rfl) rfl rfl (by (try simp only [List.map_toArray, List.map_cons, List.map_nil]); first | done | rfl | (simp only [List.length_drop, List.length_take]; rfl)) ?_
          with_reducible refine (afterglowref14_Key.calls k a0_0 a0_1 a0_2 a0_3 t350 _ A25.out).mono ?_
          rintro e w35 ⟨rfl, hb⟩
          refine ⟨_, rfl, ?_⟩
          have n0_ := Aside0.mk (blk_below (g := gb331) (o := .cells #[.int .i64 a0_0, .int .i64 a0_1, .int .i64 a0_2, .int .i64 a0_3] 39 (0, 0)) (by (with_reducible repeat (first | refine blk_drewN ?_ _ | refine blk_drew ?_ | refine blk_alloc ?_ _)); exact BK331.out) hb)
          have n1_ := Aside0.mk (blk_below (g := gb343) (o := .cells #[.int .i64 t338, .int .i64 t339, .int .i64 t340, .int .i64 t341] 44 (0, 0)) (by (with_reducible repeat (first | refine blk_drewN ?_ _ | refine blk_drew ?_ | refine blk_alloc ?_ _)); exact BK343.out) hb)
          have n2_ := Aside0.mk (blk_below (g := gb349) (o := .cells #[.int .i64 t344, .int .i64 t345, .int .i64 t346, .int .i64 t347] 39 (0, 0)) (by (with_reducible repeat (first | refine blk_drewN ?_ _ | refine blk_drew ?_ | refine blk_alloc ?_ _)); exact BK349.out) hb)
          have n3_ := Aside0.mk (below_step (by repeat (first | (with_reducible first | exact HB.out | apply below_alloc | apply pw_below_drewN | apply below_drew1 | refine below_set ?_ GE331.out | refine below_set ?_ GE343.out | refine below_set ?_ GE349.out) | exact HB.out)) hb)
          clear BK331
          clear BK343
          clear BK349
          clear HB
          have BK331 := n0_
          have BK343 := n1_
          have BK349 := n2_
          have HB := n3_
          clear n0_ n1_ n2_ n3_
          (try clear hb)
          (try clear hb2)
          (try clear hk)
          (try clear hi)
          refine hK.out _ _ ⟨(blk_cell BK331.out 0).trans rfl, (blk_cell BK331.out 1).trans rfl, (blk_cell BK331.out 2).trans rfl, (blk_cell BK331.out 3).trans rfl, (blk_cell BK343.out 0).trans rfl, (blk_cell BK343.out 1).trans rfl, (blk_cell BK343.out 2).trans rfl, (blk_cell BK343.out 3).trans rfl, (blk_cell BK349.out 0).trans rfl, (blk_cell BK349.out 1).trans rfl, (blk_cell BK349.out 2).trans rfl, (blk_cell BK349.out 3).trans rfl⟩ (fun hHeld => ?_)
          clear hK K
          refine norm_ (a' := ?_) ?_ ?_
          rotate_left
          · show Act.put _ (some 31) _ = _
            simp only [Act.put, List.setIfInBounds_toArray, List.set_cons_zero, List.set_cons_succ, i64_w, i32_w]
            rfl
          refine pure_ (i := 3) (N := some 32) (v := ?_) (a' := ?_) #[true, true, true, true, false, false, false, false, false, false, false, false, false, false, false] rfl rfl (any_of HT_.out (by kernel_rfl)) (fun _ _ _ h => h) (Or.inl ⟨by rfl, ?_⟩) ?_ ?_
          rotate_left
          · intro w'
            go_simp
            with_reducible rfl
          rotate_left
          · simp only [Act.put, List.setIfInBounds_toArray, List.set_cons_zero, List.set_cons_succ, i64_w, i32_w]
            rfl
          refine pure_ (i := 4) (N := some 33) (v := ?_) (a' := ?_) #[true, true, true, true, true, false, false, false, false, false, false, false, false, false, false] rfl rfl (any_of HT_.out (by kernel_rfl)) (fun _ _ _ h => h) (Or.inl ⟨by rfl, ?_⟩) ?_ ?_
          rotate_left
          · intro w'
            go_simp
            with_reducible rfl
          rotate_left
          · simp only [Act.put, List.setIfInBounds_toArray, List.set_cons_zero, List.set_cons_succ, i64_w, i32_w]
            rfl
          refine take_ (i := 5) (N := some 34) (v := ?_) (a' := ?_) #[true, true, true, true, true, true, false, false, false, false, false, false, false, false, false] rfl rfl (take_ofW HT_.out HW_.out (by kernel_rfl)) (fun _ _ _ h => h) (Or.inl ⟨by rfl, ?_⟩) hHeld ?_ ?_
          rotate_left
          · rintro w' ⟨s0, s1, s2, s3, s4, s5, s6, s7, s8, s9, s10, s11⟩
            go_simp
            with_reducible rfl
          rotate_left
          · simp only [Act.put, List.setIfInBounds_toArray, List.set_cons_zero, List.set_cons_succ, i64_w, i32_w]
            rfl
          refine take_ (i := 7) (N := some 36) (v := ?_) (a' := ?_) #[true, true, true, true, true, true, false, true, false, false, false, false, false, false, false] rfl rfl (take_ofW HT_.out HW_.out (by kernel_rfl)) (fun _ _ _ h => h) (Or.inl ⟨by rfl, ?_⟩) hHeld ?_ ?_
          rotate_left
          · rintro w' ⟨s0, s1, s2, s3, s4, s5, s6, s7, s8, s9, s10, s11⟩
            go_simp
            with_reducible rfl
          rotate_left
          · simp only [Act.put, List.setIfInBounds_toArray, List.set_cons_zero, List.set_cons_succ, i64_w, i32_w]
            rfl
          refine one_ (i := 6) (N := some 35) #[true, true, true, true, true, true, true, true, false, false, false, false, false, false, false] rfl rfl (one_of HT_.out (by kernel_rfl)) (by decide) (fun K hK => ?_)
          refine goes_ Tryd.func34 (by kernel_rfl) rfl #[.agg #[.int .i64 t338, .int .i64 t339, .int .i64 t340, .int .i64 t341]] (by rfl) rfl rfl (by (try simp only [List.map_toArray, List.map_cons, List.map_nil]); first | done | rfl | (simp only [List.length_drop, List.length_take]; rfl)) ?_
          with_reducible refine (afterglowlaw08_Old.calls t338 t339 t340 t341 t351 t352 t353 t354 _ A27.out).mono ?_
          rintro e w36 ⟨rfl, hb⟩
          refine ⟨_, rfl, ?_⟩
          have n0_ := Aside0.mk (blk_below (g := gb331) (o := .cells #[.int .i64 a0_0, .int .i64 a0_1, .int .i64 a0_2, .int .i64 a0_3] 39 (0, 0)) (by (with_reducible repeat (first | refine blk_drewN ?_ _ | refine blk_drew ?_ | refine blk_alloc ?_ _)); exact BK331.out) hb)
          have n1_ := Aside0.mk (blk_below (g := gb343) (o := .cells #[.int .i64 t338, .int .i64 t339, .int .i64 t340, .int .i64 t341] 44 (0, 0)) (by (with_reducible repeat (first | refine blk_drewN ?_ _ | refine blk_drew ?_ | refine blk_alloc ?_ _)); exact BK343.out) hb)
          have n2_ := Aside0.mk (blk_below (g := gb349) (o := .cells #[.int .i64 t344, .int .i64 t345, .int .i64 t346, .int .i64 t347] 39 (0, 0)) (by (with_reducible repeat (first | refine blk_drewN ?_ _ | refine blk_drew ?_ | refine blk_alloc ?_ _)); exact BK349.out) hb)
          have n3_ := Aside0.mk (below_step (by repeat (first | (with_reducible first | exact HB.out | apply below_alloc | apply pw_below_drewN | apply below_drew1 | refine below_set ?_ GE331.out | refine below_set ?_ GE343.out | refine below_set ?_ GE349.out) | exact HB.out)) hb)
          clear BK331
          clear BK343
          clear BK349
          clear HB
          have BK331 := n0_
          have BK343 := n1_
          have BK349 := n2_
          have HB := n3_
          clear n0_ n1_ n2_ n3_
          (try clear hb)
          (try clear hb2)
          (try clear hk)
          (try clear hi)
          refine hK.out _ _ ⟨(blk_cell BK331.out 0).trans rfl, (blk_cell BK331.out 1).trans rfl, (blk_cell BK331.out 2).trans rfl, (blk_cell BK331.out 3).trans rfl, (blk_cell BK343.out 0).trans rfl, (blk_cell BK343.out 1).trans rfl, (blk_cell BK343.out 2).trans rfl, (blk_cell BK343.out 3).trans rfl, (blk_cell BK349.out 0).trans rfl, (blk_cell BK349.out 1).trans rfl, (blk_cell BK349.out 2).trans rfl, (blk_cell BK349.out 3).trans rfl⟩ (fun hHeld => ?_)
          clear hK K
          refine norm_ (a' := ?_) ?_ ?_
          rotate_left
          · show Act.put _ (some 35) _ = _
            simp only [Act.put, List.setIfInBounds_toArray, List.set_cons_zero, List.set_cons_succ, i64_w, i32_w]
            rfl
          refine pure_ (i := 8) (N := some 37) (v := ?_) (a' := ?_) #[true, true, true, true, true, true, true, true, true, false, false, false, false, false, false] rfl rfl (any_of HT_.out (by kernel_rfl)) (fun _ _ _ h => h) (Or.inl ⟨by rfl, ?_⟩) ?_ ?_
          rotate_left
          · intro w'
            go_simp
            with_reducible rfl
          rotate_left
          · simp only [Act.put, List.setIfInBounds_toArray, List.set_cons_zero, List.set_cons_succ, i64_w, i32_w]
            rfl
          refine pure_ (i := 9) (N := some 38) (v := ?_) (a' := ?_) #[true, true, true, true, true, true, true, true, true, true, false, false, false, false, false] rfl rfl (any_of HT_.out (by kernel_rfl)) (fun _ _ _ h => h) (Or.inl ⟨by rfl, ?_⟩) ?_ ?_
          rotate_left
          · intro w'
            go_simp
            with_reducible rfl
          rotate_left
          · simp only [Act.put, List.setIfInBounds_toArray, List.set_cons_zero, List.set_cons_succ, i64_w, i32_w]
            rfl
          refine pure_ (i := 10) (N := some 39) (v := ?_) (a' := ?_) #[true, true, true, true, true, true, true, true, true, true, true, false, false, false, false] rfl rfl (any_of HT_.out (by kernel_rfl)) (fun _ _ _ h => h) (Or.inl ⟨by rfl, ?_⟩) ?_ ?_
          rotate_left
          · intro w'
            go_simp
            with_reducible rfl
          rotate_left
          · simp only [Act.put, List.setIfInBounds_toArray, List.set_cons_zero, List.set_cons_succ, i64_w, i32_w]
            rfl
          refine pure_ (i := 11) (N := some 40) (v := ?_) (a' := ?_) #[true, true, true, true, true, true, true, true, true, true, true, true, false, false, false] rfl rfl (any_of HT_.out (by kernel_rfl)) (fun _ _ _ h => h) (Or.inl ⟨by rfl, ?_⟩) ?_ ?_
          rotate_left
          · intro w'
            go_simp
            with_reducible rfl
          rotate_left
          · simp only [Act.put, List.setIfInBounds_toArray, List.set_cons_zero, List.set_cons_succ, i64_w, i32_w]
            rfl
          refine pure_ (i := 12) (N := some 41) (v := ?_) (a' := ?_) #[true, true, true, true, true, true, true, true, true, true, true, true, true, false, false] rfl rfl (any_of HT_.out (by kernel_rfl)) (fun _ _ _ h => h) (Or.inl ⟨by rfl, ?_⟩) ?_ ?_
          rotate_left
          · intro w'
            go_simp
            with_reducible rfl
          rotate_left
          · simp only [Act.put, List.setIfInBounds_toArray, List.set_cons_zero, List.set_cons_succ, i64_w, i32_w]
            rfl
          refine pure_ (i := 13) (N := some 42) (v := ?_) (a' := ?_) #[true, true, true, true, true, true, true, true, true, true, true, true, true, true, false] rfl rfl (any_of HT_.out (by kernel_rfl)) (fun _ _ _ h => h) (Or.inl ⟨by rfl, ?_⟩) ?_ ?_
          rotate_left
          · intro w'
            go_simp
            with_reducible rfl
          rotate_left
          · simp only [Act.put, List.setIfInBounds_toArray, List.set_cons_zero, List.set_cons_succ, i64_w, i32_w]
            rfl
          refine pure_ (i := 14) (N := some 43) (v := ?_) (a' := ?_) #[true, true, true, true, true, true, true, true, true, true, true, true, true, true, true] rfl rfl (any_of HT_.out (by kernel_rfl)) (fun _ _ _ h => h) (Or.inl ⟨by rfl, ?_⟩) ?_ ?_
          rotate_left
          · intro w'
            go_simp
            with_reducible rfl
          rotate_left
          · simp only [Act.put, List.setIfInBounds_toArray, List.set_cons_zero, List.set_cons_succ, i64_w, i32_w]
            rfl
          refine done_ (done_of HT_.out (by kernel_rfl)) ?_
          try go_wp2
          go_meet
          case rel => exact ⟨_, ((t342 != t348)), (by first | rfl | (simp; done) | (simp [*]; done)), H', ⟨by first | omega | exact Nat.le_refl _⟩, ⟨by (with_reducible repeat (first | refine blk_drewN ?_ _ | refine blk_drew ?_ | refine blk_alloc ?_ _)); exact BK331.out⟩, ⟨by (with_reducible repeat (first | refine blk_drewN ?_ _ | refine blk_drew ?_ | refine blk_alloc ?_ _)); exact BK343.out⟩, ⟨by (with_reducible repeat (first | refine blk_drewN ?_ _ | refine blk_drew ?_ | refine blk_alloc ?_ _)); exact BK349.out⟩, ⟨by repeat (first | (with_reducible first | exact HB.out | apply below_alloc | apply pw_below_drewN | apply below_drew1 | refine below_set ?_ GE331.out | refine below_set ?_ GE343.out | refine below_set ?_ GE349.out) | exact HB.out)⟩⟩
      · rw [if_neg c26] at H
        have c26b0 : (t337.toList == t350.toList) = false := beq_eq_false_iff_ne.mpr c26
        have c26b1 : (t337.toList != t350.toList) = true := bne_iff_ne.mpr c26
        (first | rw [c26b0] | (simp only [i64_w, i32_w]; rw [c26b0]) | skip)
        have H' := Aside0.mk H
        clear H
        try go_wp2
        have n0_ : Aside0 (((((w21.setCell ⟨gb349, 0, none⟩ (.int .i64 t344)).setCell ⟨gb349, 1, none⟩ (.int .i64 t345)).setCell ⟨gb349, 2, none⟩ (.int .i64 t346)).setCell ⟨gb349, 3, none⟩ (.int .i64 t347)).heap[gb331]? = some (.cells #[.int .i64 a0_0, .int .i64 a0_1, .int .i64 a0_2, .int .i64 a0_3] 39 (0, 0))) := ⟨by (with_reducible repeat (first | refine blk_drewN ?_ _ | refine blk_drew ?_ | refine blk_alloc ?_ _)); refine blk_far ?_ NB331_349.out _; (with_reducible repeat (first | refine blk_drewN ?_ _ | refine blk_drew ?_ | refine blk_alloc ?_ _)); refine blk_far ?_ NB331_349.out _; (with_reducible repeat (first | refine blk_drewN ?_ _ | refine blk_drew ?_ | refine blk_alloc ?_ _)); refine blk_far ?_ NB331_349.out _; (with_reducible repeat (first | refine blk_drewN ?_ _ | refine blk_drew ?_ | refine blk_alloc ?_ _)); refine blk_far ?_ NB331_349.out _; (with_reducible repeat (first | refine blk_drewN ?_ _ | refine blk_drew ?_ | refine blk_alloc ?_ _)); exact BK331.out⟩
        have n1_ : Aside0 (((((w21.setCell ⟨gb349, 0, none⟩ (.int .i64 t344)).setCell ⟨gb349, 1, none⟩ (.int .i64 t345)).setCell ⟨gb349, 2, none⟩ (.int .i64 t346)).setCell ⟨gb349, 3, none⟩ (.int .i64 t347)).heap[gb343]? = some (.cells #[.int .i64 t338, .int .i64 t339, .int .i64 t340, .int .i64 t341] 44 (0, 0))) := ⟨by (with_reducible repeat (first | refine blk_drewN ?_ _ | refine blk_drew ?_ | refine blk_alloc ?_ _)); refine blk_far ?_ NB343_349.out _; (with_reducible repeat (first | refine blk_drewN ?_ _ | refine blk_drew ?_ | refine blk_alloc ?_ _)); refine blk_far ?_ NB343_349.out _; (with_reducible repeat (first | refine blk_drewN ?_ _ | refine blk_drew ?_ | refine blk_alloc ?_ _)); refine blk_far ?_ NB343_349.out _; (with_reducible repeat (first | refine blk_drewN ?_ _ | refine blk_drew ?_ | refine blk_alloc ?_ _)); refine blk_far ?_ NB343_349.out _; (with_reducible repeat (first | refine blk_drewN ?_ _ | refine blk_drew ?_ | refine blk_alloc ?_ _)); exact BK343.out⟩
        have n2_ : Aside0 (((((w21.setCell ⟨gb349, 0, none⟩ (.int .i64 t344)).setCell ⟨gb349, 1, none⟩ (.int .i64 t345)).setCell ⟨gb349, 2, none⟩ (.int .i64 t346)).setCell ⟨gb349, 3, none⟩ (.int .i64 t347)).heap[gb349]? = some (.cells #[.int .i64 t344, .int .i64 t345, .int .i64 t346, .int .i64 t347] 39 (0, 0))) := ⟨by (with_reducible repeat (first | refine blk_drewN ?_ _ | refine blk_drew ?_ | refine blk_alloc ?_ _)); refine blk_put (cs := #[.int .i64 t344, .int .i64 t345, .int .i64 t346, .int .i64 0]) ?_ 3 _ rfl; (with_reducible repeat (first | refine blk_drewN ?_ _ | refine blk_drew ?_ | refine blk_alloc ?_ _)); refine blk_put (cs := #[.int .i64 t344, .int .i64 t345, .int .i64 0, .int .i64 0]) ?_ 2 _ rfl; (with_reducible repeat (first | refine blk_drewN ?_ _ | refine blk_drew ?_ | refine blk_alloc ?_ _)); refine blk_put (cs := #[.int .i64 t344, .int .i64 0, .int .i64 0, .int .i64 0]) ?_ 1 _ rfl; (with_reducible repeat (first | refine blk_drewN ?_ _ | refine blk_drew ?_ | refine blk_alloc ?_ _)); refine blk_put (cs := #[.int .i64 0, .int .i64 0, .int .i64 0, .int .i64 0]) ?_ 0 _ rfl; (with_reducible repeat (first | refine blk_drewN ?_ _ | refine blk_drew ?_ | refine blk_alloc ?_ _)); exact BK349.out⟩
        have n3_ : Aside0 (Below w.heap.size w ((((w21.setCell ⟨gb349, 0, none⟩ (.int .i64 t344)).setCell ⟨gb349, 1, none⟩ (.int .i64 t345)).setCell ⟨gb349, 2, none⟩ (.int .i64 t346)).setCell ⟨gb349, 3, none⟩ (.int .i64 t347))) := ⟨by repeat (first | (with_reducible first | exact HB.out | apply below_alloc | apply pw_below_drewN | apply below_drew1 | refine below_set ?_ GE331.out | refine below_set ?_ GE343.out | refine below_set ?_ GE349.out) | exact HB.out)⟩
        (try clear BK331)
        (try clear BK343)
        (try clear BK349)
        (try clear HB)
        generalize ((((w21.setCell ⟨gb349, 0, none⟩ (.int .i64 t344)).setCell ⟨gb349, 1, none⟩ (.int .i64 t345)).setCell ⟨gb349, 2, none⟩ (.int .i64 t346)).setCell ⟨gb349, 3, none⟩ (.int .i64 t347)) = w37 at n0_ n1_ n2_ n3_ ⊢
        have BK331 := n0_
        have BK343 := n1_
        have BK349 := n2_
        have HB := n3_
        clear n0_ n1_ n2_ n3_
        have n0_ := Aside0.mk (blk_drew BK331.out)
        have n1_ := Aside0.mk (blk_drew BK343.out)
        have n2_ := Aside0.mk (blk_drew BK349.out)
        have n3_ := Aside0.mk (below_drew1 HB.out)
        clear BK331
        clear BK343
        clear BK349
        clear HB
        have BK331 := n0_
        have BK343 := n1_
        have BK349 := n2_
        have HB := n3_
        clear n0_ n1_ n2_ n3_
        refine start_ (n := 15) (S := fun w' => w'.cell? ⟨gb331, 0, none⟩ = some (.int .i64 a0_0) ∧ w'.cell? ⟨gb331, 1, none⟩ = some (.int .i64 a0_1) ∧ w'.cell? ⟨gb331, 2, none⟩ = some (.int .i64 a0_2) ∧ w'.cell? ⟨gb331, 3, none⟩ = some (.int .i64 a0_3)) (ds := []) #[false, false, false, false, false, false, false, false, false, false, false, false, false, false, false] (by kernel_rfl) rfl rfl ⟨(blk_cell BK331.out 0).trans rfl, (blk_cell BK331.out 1).trans rfl, (blk_cell BK331.out 2).trans rfl, (blk_cell BK331.out 3).trans rfl⟩ (fun hHeld => ?_); refine with_tabW afterglowlaw14_PageKeys.tab6 afterglowlaw14_PageKeys.bits6 (fun HT_ HW_ => ?_)
        generalize w37.drew = w38 at BK331 BK343 BK349 HB hHeld ⊢
        refine pure_ (i := 0) (N := some 29) (v := ?_) (a' := ?_) #[true, false, false, false, false, false, false, false, false, false, false, false, false, false, false] rfl rfl (any_of HT_.out (by kernel_rfl)) (fun _ _ _ h => h) (Or.inl ⟨by rfl, ?_⟩) ?_ ?_
        rotate_left
        · intro w'
          go_simp
          with_reducible rfl
        rotate_left
        · simp only [Act.put, List.setIfInBounds_toArray, List.set_cons_zero, List.set_cons_succ, i64_w, i32_w]
          rfl
        refine take_ (i := 1) (N := some 30) (v := ?_) (a' := ?_) #[true, true, false, false, false, false, false, false, false, false, false, false, false, false, false] rfl rfl (take_ofW HT_.out HW_.out (by kernel_rfl)) (fun _ _ _ h => h) (Or.inl ⟨by rfl, ?_⟩) hHeld ?_ ?_
        rotate_left
        · rintro w' ⟨s0, s1, s2, s3⟩
          go_simp
          with_reducible rfl
        rotate_left
        · simp only [Act.put, List.setIfInBounds_toArray, List.set_cons_zero, List.set_cons_succ, i64_w, i32_w]
          rfl
        refine one_ (i := 2) (N := some 31) #[true, true, true, false, false, false, false, false, false, false, false, false, false, false, false] rfl rfl (one_of HT_.out (by kernel_rfl)) (by decide) (fun K hK => ?_)
        refine goes_ Tryd.func33 (by kernel_rfl) rfl #[.agg #[.int .i64 a0_0, .int .i64 a0_1, .int .i64 a0_2, .int .i64 a0_3]] (by rfl) rfl rfl (by (try simp only [List.map_toArray, List.map_cons, List.map_nil]); first | done | rfl | (simp only [List.length_drop, List.length_take]; rfl)) ?_
        with_reducible refine (afterglowref14_Key.calls k a0_0 a0_1 a0_2 a0_3 t350 _ A25.out).mono ?_
        rintro e w39 ⟨rfl, hb⟩
        refine ⟨_, rfl, ?_⟩
        have n0_ := Aside0.mk (blk_below (g := gb331) (o := .cells #[.int .i64 a0_0, .int .i64 a0_1, .int .i64 a0_2, .int .i64 a0_3] 39 (0, 0)) (by (with_reducible repeat (first | refine blk_drewN ?_ _ | refine blk_drew ?_ | refine blk_alloc ?_ _)); exact BK331.out) hb)
        have n1_ := Aside0.mk (blk_below (g := gb343) (o := .cells #[.int .i64 t338, .int .i64 t339, .int .i64 t340, .int .i64 t341] 44 (0, 0)) (by (with_reducible repeat (first | refine blk_drewN ?_ _ | refine blk_drew ?_ | refine blk_alloc ?_ _)); exact BK343.out) hb)
        have n2_ := Aside0.mk (blk_below (g := gb349) (o := .cells #[.int .i64 t344, .int .i64 t345, .int .i64 t346, .int .i64 t347] 39 (0, 0)) (by (with_reducible repeat (first | refine blk_drewN ?_ _ | refine blk_drew ?_ | refine blk_alloc ?_ _)); exact BK349.out) hb)
        have n3_ := Aside0.mk (below_step (by repeat (first | (with_reducible first | exact HB.out | apply below_alloc | apply pw_below_drewN | apply below_drew1 | refine below_set ?_ GE331.out | refine below_set ?_ GE343.out | refine below_set ?_ GE349.out) | exact HB.out)) hb)
        clear BK331
        clear BK343
        clear BK349
        clear HB
        have BK331 := n0_
        have BK343 := n1_
        have BK349 := n2_
        have HB := n3_
        clear n0_ n1_ n2_ n3_
        (try clear hb)
        (try clear hb2)
        (try clear hk)
        (try clear hi)
        refine hK.out _ _ ⟨(blk_cell BK331.out 0).trans rfl, (blk_cell BK331.out 1).trans rfl, (blk_cell BK331.out 2).trans rfl, (blk_cell BK331.out 3).trans rfl⟩ (fun hHeld => ?_)
        clear hK K
        refine norm_ (a' := ?_) ?_ ?_
        rotate_left
        · show Act.put _ (some 31) _ = _
          simp only [Act.put, List.setIfInBounds_toArray, List.set_cons_zero, List.set_cons_succ, i64_w, i32_w]
          rfl
        refine pure_ (i := 3) (N := some 32) (v := ?_) (a' := ?_) #[true, true, true, true, false, false, false, false, false, false, false, false, false, false, false] rfl rfl (any_of HT_.out (by kernel_rfl)) (fun _ _ _ h => h) (Or.inl ⟨by rfl, ?_⟩) ?_ ?_
        rotate_left
        · intro w'
          go_simp
          with_reducible rfl
        rotate_left
        · simp only [Act.put, List.setIfInBounds_toArray, List.set_cons_zero, List.set_cons_succ, i64_w, i32_w]
          rfl
        refine pure_ (i := 4) (N := some 33) (v := ?_) (a' := ?_) #[true, true, true, true, true, false, false, false, false, false, false, false, false, false, false] rfl rfl (any_of HT_.out (by kernel_rfl)) (fun _ _ _ h => h) (Or.inl ⟨by rfl, ?_⟩) ?_ ?_
        rotate_left
        · intro w'
          go_simp
          with_reducible rfl
        rotate_left
        · simp only [Act.put, List.setIfInBounds_toArray, List.set_cons_zero, List.set_cons_succ, i64_w, i32_w]
          rfl
        refine pure_ (i := 5) (N := some 34) (v := undef) (a' := ?_) #[true, true, true, true, true, true, false, false, false, false, false, false, false, false, false] rfl rfl (any_of HT_.out (by kernel_rfl)) (fun _ _ _ h => h) (Or.inr ⟨by rfl, rfl⟩) ?_ ?_
        rotate_left
        · simp only [Act.put, List.setIfInBounds_toArray, List.set_cons_zero, List.set_cons_succ, i64_w, i32_w]
          rfl
        refine pure_ (i := 6) (N := some 35) (v := undef) (a' := ?_) #[true, true, true, true, true, true, true, false, false, false, false, false, false, false, false] rfl rfl (any_of HT_.out (by kernel_rfl)) (fun _ _ _ h => h) (Or.inr ⟨by rfl, rfl⟩) ?_ ?_
        rotate_left
        · simp only [Act.put, List.setIfInBounds_toArray, List.set_cons_zero, List.set_cons_succ, i64_w, i32_w]
          rfl
        refine pure_ (i := 7) (N := some 36) (v := undef) (a' := ?_) #[true, true, true, true, true, true, true, true, false, false, false, false, false, false, false] rfl rfl (any_of HT_.out (by kernel_rfl)) (fun _ _ _ h => h) (Or.inr ⟨by rfl, rfl⟩) ?_ ?_
        rotate_left
        · simp only [Act.put, List.setIfInBounds_toArray, List.set_cons_zero, List.set_cons_succ, i64_w, i32_w]
          rfl
        refine pure_ (i := 8) (N := some 37) (v := undef) (a' := ?_) #[true, true, true, true, true, true, true, true, true, false, false, false, false, false, false] rfl rfl (any_of HT_.out (by kernel_rfl)) (fun _ _ _ h => h) (Or.inr ⟨by rfl, rfl⟩) ?_ ?_
        rotate_left
        · simp only [Act.put, List.setIfInBounds_toArray, List.set_cons_zero, List.set_cons_succ, i64_w, i32_w]
          rfl
        refine pure_ (i := 9) (N := some 38) (v := ?_) (a' := ?_) #[true, true, true, true, true, true, true, true, true, true, false, false, false, false, false] rfl rfl (any_of HT_.out (by kernel_rfl)) (fun _ _ _ h => h) (Or.inl ⟨by rfl, ?_⟩) ?_ ?_
        rotate_left
        · intro w'
          go_simp
          with_reducible rfl
        rotate_left
        · simp only [Act.put, List.setIfInBounds_toArray, List.set_cons_zero, List.set_cons_succ, i64_w, i32_w]
          rfl
        refine pure_ (i := 10) (N := some 39) (v := ?_) (a' := ?_) #[true, true, true, true, true, true, true, true, true, true, true, false, false, false, false] rfl rfl (any_of HT_.out (by kernel_rfl)) (fun _ _ _ h => h) (Or.inl ⟨by rfl, ?_⟩) ?_ ?_
        rotate_left
        · intro w'
          go_simp
          with_reducible rfl
        rotate_left
        · simp only [Act.put, List.setIfInBounds_toArray, List.set_cons_zero, List.set_cons_succ, i64_w, i32_w]
          rfl
        refine pure_ (i := 11) (N := some 40) (v := undef) (a' := ?_) #[true, true, true, true, true, true, true, true, true, true, true, true, false, false, false] rfl rfl (any_of HT_.out (by kernel_rfl)) (fun _ _ _ h => h) (Or.inr ⟨by rfl, rfl⟩) ?_ ?_
        rotate_left
        · simp only [Act.put, List.setIfInBounds_toArray, List.set_cons_zero, List.set_cons_succ, i64_w, i32_w]
          rfl
        refine pure_ (i := 12) (N := some 41) (v := undef) (a' := ?_) #[true, true, true, true, true, true, true, true, true, true, true, true, true, false, false] rfl rfl (any_of HT_.out (by kernel_rfl)) (fun _ _ _ h => h) (Or.inr ⟨by rfl, rfl⟩) ?_ ?_
        rotate_left
        · simp only [Act.put, List.setIfInBounds_toArray, List.set_cons_zero, List.set_cons_succ, i64_w, i32_w]
          rfl
        refine pure_ (i := 13) (N := some 42) (v := undef) (a' := ?_) #[true, true, true, true, true, true, true, true, true, true, true, true, true, true, false] rfl rfl (any_of HT_.out (by kernel_rfl)) (fun _ _ _ h => h) (Or.inr ⟨by rfl, rfl⟩) ?_ ?_
        rotate_left
        · simp only [Act.put, List.setIfInBounds_toArray, List.set_cons_zero, List.set_cons_succ, i64_w, i32_w]
          rfl
        refine pure_ (i := 14) (N := some 43) (v := ?_) (a' := ?_) #[true, true, true, true, true, true, true, true, true, true, true, true, true, true, true] rfl rfl (any_of HT_.out (by kernel_rfl)) (fun _ _ _ h => h) (Or.inl ⟨by rfl, ?_⟩) ?_ ?_
        rotate_left
        · intro w'
          go_simp
          with_reducible rfl
        rotate_left
        · simp only [Act.put, List.setIfInBounds_toArray, List.set_cons_zero, List.set_cons_succ, i64_w, i32_w]
          rfl
        refine done_ (done_of HT_.out (by kernel_rfl)) ?_
        try go_wp2
        go_meet
        case rel => exact ⟨_, (true), (by first | rfl | (simp; done) | (simp [*]; done)), H', ⟨by first | omega | exact Nat.le_refl _⟩, ⟨by (with_reducible repeat (first | refine blk_drewN ?_ _ | refine blk_drew ?_ | refine blk_alloc ?_ _)); exact BK331.out⟩, ⟨by (with_reducible repeat (first | refine blk_drewN ?_ _ | refine blk_drew ?_ | refine blk_alloc ?_ _)); exact BK343.out⟩, ⟨by (with_reducible repeat (first | refine blk_drewN ?_ _ | refine blk_drew ?_ | refine blk_alloc ?_ _)); exact BK349.out⟩, ⟨by repeat (first | (with_reducible first | exact HB.out | apply below_alloc | apply pw_below_drewN | apply below_drew1 | refine below_set ?_ GE331.out | refine below_set ?_ GE343.out | refine below_set ?_ GE349.out) | exact HB.out)⟩⟩
    case rest =>
      clear HC11
      try clear c1
      try clear c2
      try clear p2
      try clear c3
      try clear c3b0
      try clear c3b1
      try clear c9
      try clear c18
      try clear c22
      try clear c23
      try clear c26
      try clear c26b0
      try clear c26b1
      try clear c28
      try clear c28b0
      try clear c29
      try clear c30
      try clear c31
      try clear c32
      try clear c33
      try clear c34
      try clear hcz13_0
      try clear hcz13_1
      try clear hcz13_2
      try clear hcz13_3
      try clear hcz19_0
      try clear hcz19_1
      try clear hcz19_2
      try clear hcz19_3
      try clear hcz24_0
      try clear hcz24_1
      try clear hcz24_2
      try clear hcz24_3
      try clear hfz13_0
      try clear hfz13_1
      try clear hfz13_2
      try clear hfz13_3
      try clear hfz19_0
      try clear hfz19_1
      try clear hfz19_2
      try clear hfz19_3
      try clear hfz24_0
      try clear hfz24_1
      try clear hfz24_2
      try clear hfz24_3
      obtain ⟨kq, x43_10, rfl, HA, HJ10, BK331, BK343, BK349, HB⟩ := hcut
      cases kq with
      | zero => exact absurd HA.out (by simp [afterglowlaw14_PageKeys.j0])
      | succ kj10 =>
        have H := HA.out
        clear HA
        simp only [afterglowlaw14_PageKeys.j0] at H
        by_cases c40 : x43_10 = true
        · subst c40
          have H1 : (none) = some r := by rw [if_pos rfl] at H; exact H
          clear H
          have H := H1
          clear H1
          exact absurd H (by simp)
        · replace c40 := Bool.eq_false_iff.mpr c40
          subst c40
          have H1 : ((page_Parse.f t337).bind fun bt355 => ((afterglowlaw14_alive.f kj10).bind fun t361 => (if t361 = true then (if (bt355.2.2.2.2 == (t337.toList != ([] : List UInt8))) = true then (if bt355.2.2.2.2 = true then ((afterglowlaw08_Old.f bt355.1 bt355.2.1 bt355.2.2.1 bt355.2.2.2.1).bind fun bt362 => (if (bt362.1 == a0_0 && (bt362.2.1 == a0_1 && (bt362.2.2.1 == a0_2 && (bt362.2.2.2 == a0_3)))) = true then (if t342 = true then ((page_Key.f t338 t339 t340 t341).bind fun t366 => (some (t366.toList == a1.toList))) else (some true)) else (none))) else (if t342 = true then ((page_Key.f t338 t339 t340 t341).bind fun t367 => (some (t367.toList == a1.toList))) else (some true))) else (none)) else (none)))) = some r := by rw [if_neg (show ¬ (false = true) by decide)] at H; exact H
          clear H
          have H := H1
          clear H1
          replace H := Option.bind_eq_some_iff.mp H
          obtain ⟨⟨t355, t356, t357, t358, t359⟩, A410, H⟩ := H
          replace H : ((afterglowlaw14_alive.f kj10).bind fun t361 => (if t361 = true then (if (t359 == (t337.toList != ([] : List UInt8))) = true then (if t359 = true then ((afterglowlaw08_Old.f t355 t356 t357 t358).bind fun bt362 => (if (bt362.1 == a0_0 && (bt362.2.1 == a0_1 && (bt362.2.2.1 == a0_2 && (bt362.2.2.2 == a0_3)))) = true then (if t342 = true then ((page_Key.f t338 t339 t340 t341).bind fun t366 => (some (t366.toList == a1.toList))) else (some true)) else (none))) else (if t342 = true then ((page_Key.f t338 t339 t340 t341).bind fun t367 => (some (t367.toList == a1.toList))) else (some true))) else (none)) else (none))) = some r := H
          have A41 := Aside0.mk A410
          clear A410
          replace H := Option.bind_eq_some_iff.mp H
          obtain ⟨t361, A420, H⟩ := H
          replace H : (if t361 = true then (if (t359 == (t337.toList != ([] : List UInt8))) = true then (if t359 = true then ((afterglowlaw08_Old.f t355 t356 t357 t358).bind fun bt362 => (if (bt362.1 == a0_0 && (bt362.2.1 == a0_1 && (bt362.2.2.1 == a0_2 && (bt362.2.2.2 == a0_3)))) = true then (if t342 = true then ((page_Key.f t338 t339 t340 t341).bind fun t366 => (some (t366.toList == a1.toList))) else (some true)) else (none))) else (if t342 = true then ((page_Key.f t338 t339 t340 t341).bind fun t367 => (some (t367.toList == a1.toList))) else (some true))) else (none)) else (none)) = some r := H
          have A42 := Aside0.mk A420
          clear A420
          by_cases c43 : t361 = true
          · subst c43
            have H1 : (if (t359 == (t337.toList != ([] : List UInt8))) = true then (if t359 = true then ((afterglowlaw08_Old.f t355 t356 t357 t358).bind fun bt362 => (if (bt362.1 == a0_0 && (bt362.2.1 == a0_1 && (bt362.2.2.1 == a0_2 && (bt362.2.2.2 == a0_3)))) = true then (if t342 = true then ((page_Key.f t338 t339 t340 t341).bind fun t366 => (some (t366.toList == a1.toList))) else (some true)) else (none))) else (if t342 = true then ((page_Key.f t338 t339 t340 t341).bind fun t367 => (some (t367.toList == a1.toList))) else (some true))) else (none)) = some r := by rw [if_pos rfl] at H; exact H
            clear H
            have H := H1
            clear H1
            by_cases c44 : (t359 == (t337.toList != ([] : List UInt8))) = true
            · rw [if_pos c44] at H
              have c44b0 : (t359 == (t337.toList != ([] : List UInt8))) = true := c44
              (try (have c44b1 : decide (t359 = (t337.toList != ([] : List UInt8))) = true := by simpa using c44))
              (try (have c44b2 : (t359 == (t337.toList != ([] : List UInt8))) = true := by simpa using c44))
              have c44b7 := (eq_bne_pos c44).1
              have c44b8 := (eq_bne_pos c44).2
              clear c44
              by_cases c45 : t359 = true
              · subst c45
                have H1 : ((afterglowlaw08_Old.f t355 t356 t357 t358).bind fun bt362 => (if (bt362.1 == a0_0 && (bt362.2.1 == a0_1 && (bt362.2.2.1 == a0_2 && (bt362.2.2.2 == a0_3)))) = true then (if t342 = true then ((page_Key.f t338 t339 t340 t341).bind fun t366 => (some (t366.toList == a1.toList))) else (some true)) else (none))) = some r := by rw [if_pos rfl] at H; exact H
                clear H
                have H := H1
                clear H1
                replace H := Option.bind_eq_some_iff.mp H
                obtain ⟨⟨t362, t363, t364, t365⟩, A460, H⟩ := H
                replace H : (if (t362 == a0_0 && (t363 == a0_1 && (t364 == a0_2 && (t365 == a0_3)))) = true then (if t342 = true then ((page_Key.f t338 t339 t340 t341).bind fun t366 => (some (t366.toList == a1.toList))) else (some true)) else (none)) = some r := H
                have A46 := Aside0.mk A460
                clear A460
                by_cases c47 : (t362 == a0_0 && (t363 == a0_1 && (t364 == a0_2 && (t365 == a0_3)))) = true
                · rw [if_pos c47] at H
                  have c47b0 : (t362 == a0_0 && (t363 == a0_1 && (t364 == a0_2 && (t365 == a0_3)))) = true := c47
                  (try (have c47b1 : decide (t362 = a0_0 && (t363 == a0_1 && (t364 == a0_2 && (t365 == a0_3)))) = true := by simpa using c47))
                  (try (have c47b2 : (t362 == a0_0 && (t363 == a0_1 && (t364 == a0_2 && (t365 == a0_3)))) = true := by simpa using c47))
                  clear c47
                  by_cases c48 : t342 = true
                  · subst c48
                    have H1 : ((page_Key.f t338 t339 t340 t341).bind fun t366 => (some (t366.toList == a1.toList))) = some r := by rw [if_pos rfl] at H; exact H
                    clear H
                    have H := H1
                    clear H1
                    replace H := Option.bind_eq_some_iff.mp H
                    obtain ⟨t366, A490, H⟩ := H
                    replace H : (some (t366.toList == a1.toList)) = some r := H
                    have A49 := Aside0.mk A490
                    clear A490
                    obtain rfl := Option.some.inj H
                    try go_wp2_with (first | ((with_reducible refine gate_callee (f := 31) rfl ?_); refine goesL_ (some 46) rfl rfl Tryd.func31 (by kernel_rfl) rfl #[.string t337] rfl (by (try simp only [List.map_toArray, List.map_cons, List.map_nil]); first | done | rfl | (simp only [List.length_drop, List.length_take]; rfl)) ?_; (with_reducible refine (page_Parse.calls t337 t355 t356 t357 t358 true _ ?side1 A41.out).mono ?_); (case side1 => exact ⟨Good.below hG.out (by repeat (first | (with_reducible first | exact HB.out | apply below_alloc | apply pw_below_drewN | apply below_drew1 | refine below_set ?_ GE331.out | refine below_set ?_ GE343.out | refine below_set ?_ GE349.out) | exact HB.out))⟩); rintro e w50 ⟨rfl, hb⟩; refine ⟨_, rfl, ?_⟩; have n0_ := Aside0.mk (blk_below (g := gb331) (o := .cells #[.int .i64 a0_0, .int .i64 a0_1, .int .i64 a0_2, .int .i64 a0_3] 39 (0, 0)) (by (with_reducible repeat (first | refine blk_drewN ?_ _ | refine blk_drew ?_ | refine blk_alloc ?_ _)); exact BK331.out) hb); have n1_ := Aside0.mk (blk_below (g := gb343) (o := .cells #[.int .i64 t338, .int .i64 t339, .int .i64 t340, .int .i64 t341] 44 (0, 0)) (by (with_reducible repeat (first | refine blk_drewN ?_ _ | refine blk_drew ?_ | refine blk_alloc ?_ _)); exact BK343.out) hb); have n2_ := Aside0.mk (blk_below (g := gb349) (o := .cells #[.int .i64 t344, .int .i64 t345, .int .i64 t346, .int .i64 t347] 39 (0, 0)) (by (with_reducible repeat (first | refine blk_drewN ?_ _ | refine blk_drew ?_ | refine blk_alloc ?_ _)); exact BK349.out) hb); have n3_ := Aside0.mk (below_step (by repeat (first | (with_reducible first | exact HB.out | apply below_alloc | apply pw_below_drewN | apply below_drew1 | refine below_set ?_ GE331.out | refine below_set ?_ GE343.out | refine below_set ?_ GE349.out) | exact HB.out)) hb); clear BK331; clear BK343; clear BK349; clear HB; have BK331 := n0_; have BK343 := n1_; have BK349 := n2_; have HB := n3_; clear n0_ n1_ n2_ n3_; (try clear hb); (try clear hb2); (try clear hk); (try clear hi)) | ((with_reducible refine gate_dst (N := 10) rfl ?_); refine box_event ?hg (N := 10) ?hd (cs := #[.int .i64 0, .int .i64 0, .int .i64 0, .int .i64 0]) (t := 44) ?hr ?_; (case hd => rfl); (case hg => rfl); (case hr => first | (go_simp; done) | (go_simp; rfl)); intro gb360 hg w51 hbox hb; have n0_ := Aside0.mk (blk_below (g := gb331) (o := .cells #[.int .i64 a0_0, .int .i64 a0_1, .int .i64 a0_2, .int .i64 a0_3] 39 (0, 0)) (by (with_reducible repeat (first | refine blk_drewN ?_ _ | refine blk_drew ?_ | refine blk_alloc ?_ _)); exact BK331.out) hb); have n1_ := Aside0.mk (blk_below (g := gb343) (o := .cells #[.int .i64 t338, .int .i64 t339, .int .i64 t340, .int .i64 t341] 44 (0, 0)) (by (with_reducible repeat (first | refine blk_drewN ?_ _ | refine blk_drew ?_ | refine blk_alloc ?_ _)); exact BK343.out) hb); have n2_ := Aside0.mk (blk_below (g := gb349) (o := .cells #[.int .i64 t344, .int .i64 t345, .int .i64 t346, .int .i64 t347] 39 (0, 0)) (by (with_reducible repeat (first | refine blk_drewN ?_ _ | refine blk_drew ?_ | refine blk_alloc ?_ _)); exact BK349.out) hb); have n3_ := Aside0.mk (below_step (by repeat (first | (with_reducible first | exact HB.out | apply below_alloc | apply pw_below_drewN | apply below_drew1 | refine below_set ?_ GE331.out | refine below_set ?_ GE343.out | refine below_set ?_ GE349.out) | exact HB.out)) hb); have n4_ := Aside0.mk (hbox); have n5_ := Aside0.mk ((by rw [hg]; exact (below_size (by repeat (first | (with_reducible first | exact HB.out | apply below_alloc | apply pw_below_drewN | apply below_drew1 | refine below_set ?_ GE331.out | refine below_set ?_ GE343.out | refine below_set ?_ GE349.out) | exact HB.out))) : w.heap.size ≤ gb360)); have n6_ := Aside0.mk ((by rw [hg]; exact (below_size (by repeat (first | (with_reducible first | exact HB.out | apply below_alloc | apply pw_below_drewN | apply below_drew1 | refine below_set ?_ GE331.out | refine below_set ?_ GE343.out | refine below_set ?_ GE349.out) | exact HB.out))) : w.heap.size ≤ gb360)); have n7_ := Aside0.mk ((by rw [hg]; exact Nat.ne_of_lt (blk_lt (g := gb331) (o := .cells #[.int .i64 a0_0, .int .i64 a0_1, .int .i64 a0_2, .int .i64 a0_3] 39 (0, 0)) (by (with_reducible repeat (first | refine blk_drewN ?_ _ | refine blk_drew ?_ | refine blk_alloc ?_ _)); exact BK331.out)) : gb331 ≠ gb360)); have n8_ := Aside0.mk ((by rw [hg]; exact Nat.ne_of_gt (blk_lt (g := gb331) (o := .cells #[.int .i64 a0_0, .int .i64 a0_1, .int .i64 a0_2, .int .i64 a0_3] 39 (0, 0)) (by (with_reducible repeat (first | refine blk_drewN ?_ _ | refine blk_drew ?_ | refine blk_alloc ?_ _)); exact BK331.out)) : gb360 ≠ gb331)); have n9_ := Aside0.mk ((by rw [hg]; exact Nat.ne_of_lt (blk_lt (g := gb343) (o := .cells #[.int .i64 t338, .int .i64 t339, .int .i64 t340, .int .i64 t341] 44 (0, 0)) (by (with_reducible repeat (first | refine blk_drewN ?_ _ | refine blk_drew ?_ | refine blk_alloc ?_ _)); exact BK343.out)) : gb343 ≠ gb360)); have n10_ := Aside0.mk ((by rw [hg]; exact Nat.ne_of_gt (blk_lt (g := gb343) (o := .cells #[.int .i64 t338, .int .i64 t339, .int .i64 t340, .int .i64 t341] 44 (0, 0)) (by (with_reducible repeat (first | refine blk_drewN ?_ _ | refine blk_drew ?_ | refine blk_alloc ?_ _)); exact BK343.out)) : gb360 ≠ gb343)); have n11_ := Aside0.mk ((by rw [hg]; exact Nat.ne_of_lt (blk_lt (g := gb349) (o := .cells #[.int .i64 t344, .int .i64 t345, .int .i64 t346, .int .i64 t347] 39 (0, 0)) (by (with_reducible repeat (first | refine blk_drewN ?_ _ | refine blk_drew ?_ | refine blk_alloc ?_ _)); exact BK349.out)) : gb349 ≠ gb360)); have n12_ := Aside0.mk ((by rw [hg]; exact Nat.ne_of_gt (blk_lt (g := gb349) (o := .cells #[.int .i64 t344, .int .i64 t345, .int .i64 t346, .int .i64 t347] 39 (0, 0)) (by (with_reducible repeat (first | refine blk_drewN ?_ _ | refine blk_drew ?_ | refine blk_alloc ?_ _)); exact BK349.out)) : gb360 ≠ gb349)); clear BK331; clear BK343; clear BK349; clear HB; have BK331 := n0_; have BK343 := n1_; have BK349 := n2_; have HB := n3_; have BK360 := n4_; have GW360 := n5_; have GE360 := n6_; have NB331_360 := n7_; have NB360_331 := n8_; have NB343_360 := n9_; have NB360_343 := n10_; have NB349_360 := n11_; have NB360_349 := n12_; clear n0_ n1_ n2_ n3_ n4_ n5_ n6_ n7_ n8_ n9_ n10_ n11_ n12_; clear hb hbox hg; have hnb52 := NB360_331.out; have hnc52 := NB331_360.out; have hnb53 := NB360_343.out; have hnc53 := NB343_360.out; have hnb54 := NB360_349.out; have hnc54 := NB349_360.out; have hcz55_0 : w51.cell? ⟨gb360, 0, none⟩ = some (.int .i64 0) := (blk_cell BK360.out 0).trans rfl; have hcz55_1 : w51.cell? ⟨gb360, 1, none⟩ = some (.int .i64 0) := (blk_cell BK360.out 1).trans rfl; have hcz55_2 : w51.cell? ⟨gb360, 2, none⟩ = some (.int .i64 0) := (blk_cell BK360.out 2).trans rfl; have hcz55_3 : w51.cell? ⟨gb360, 3, none⟩ = some (.int .i64 0) := (blk_cell BK360.out 3).trans rfl; have hfz55_0 := blk_frozen BK360.out 0; have hfz55_1 := blk_frozen BK360.out 1; have hfz55_2 := blk_frozen BK360.out 2; have hfz55_3 := blk_frozen BK360.out 3))
                    have n0_ : Aside0 (((((w51.setCell ⟨gb360, 0, none⟩ (.int .i64 t355)).setCell ⟨gb360, 1, none⟩ (.int .i64 t356)).setCell ⟨gb360, 2, none⟩ (.int .i64 t357)).setCell ⟨gb360, 3, none⟩ (.int .i64 t358)).heap[gb331]? = some (.cells #[.int .i64 a0_0, .int .i64 a0_1, .int .i64 a0_2, .int .i64 a0_3] 39 (0, 0))) := ⟨by (with_reducible repeat (first | refine blk_drewN ?_ _ | refine blk_drew ?_ | refine blk_alloc ?_ _)); refine blk_far ?_ NB331_360.out _; (with_reducible repeat (first | refine blk_drewN ?_ _ | refine blk_drew ?_ | refine blk_alloc ?_ _)); refine blk_far ?_ NB331_360.out _; (with_reducible repeat (first | refine blk_drewN ?_ _ | refine blk_drew ?_ | refine blk_alloc ?_ _)); refine blk_far ?_ NB331_360.out _; (with_reducible repeat (first | refine blk_drewN ?_ _ | refine blk_drew ?_ | refine blk_alloc ?_ _)); refine blk_far ?_ NB331_360.out _; (with_reducible repeat (first | refine blk_drewN ?_ _ | refine blk_drew ?_ | refine blk_alloc ?_ _)); exact BK331.out⟩
                    have n1_ : Aside0 (((((w51.setCell ⟨gb360, 0, none⟩ (.int .i64 t355)).setCell ⟨gb360, 1, none⟩ (.int .i64 t356)).setCell ⟨gb360, 2, none⟩ (.int .i64 t357)).setCell ⟨gb360, 3, none⟩ (.int .i64 t358)).heap[gb343]? = some (.cells #[.int .i64 t338, .int .i64 t339, .int .i64 t340, .int .i64 t341] 44 (0, 0))) := ⟨by (with_reducible repeat (first | refine blk_drewN ?_ _ | refine blk_drew ?_ | refine blk_alloc ?_ _)); refine blk_far ?_ NB343_360.out _; (with_reducible repeat (first | refine blk_drewN ?_ _ | refine blk_drew ?_ | refine blk_alloc ?_ _)); refine blk_far ?_ NB343_360.out _; (with_reducible repeat (first | refine blk_drewN ?_ _ | refine blk_drew ?_ | refine blk_alloc ?_ _)); refine blk_far ?_ NB343_360.out _; (with_reducible repeat (first | refine blk_drewN ?_ _ | refine blk_drew ?_ | refine blk_alloc ?_ _)); refine blk_far ?_ NB343_360.out _; (with_reducible repeat (first | refine blk_drewN ?_ _ | refine blk_drew ?_ | refine blk_alloc ?_ _)); exact BK343.out⟩
                    have n2_ : Aside0 (((((w51.setCell ⟨gb360, 0, none⟩ (.int .i64 t355)).setCell ⟨gb360, 1, none⟩ (.int .i64 t356)).setCell ⟨gb360, 2, none⟩ (.int .i64 t357)).setCell ⟨gb360, 3, none⟩ (.int .i64 t358)).heap[gb349]? = some (.cells #[.int .i64 t344, .int .i64 t345, .int .i64 t346, .int .i64 t347] 39 (0, 0))) := ⟨by (with_reducible repeat (first | refine blk_drewN ?_ _ | refine blk_drew ?_ | refine blk_alloc ?_ _)); refine blk_far ?_ NB349_360.out _; (with_reducible repeat (first | refine blk_drewN ?_ _ | refine blk_drew ?_ | refine blk_alloc ?_ _)); refine blk_far ?_ NB349_360.out _; (with_reducible repeat (first | refine blk_drewN ?_ _ | refine blk_drew ?_ | refine blk_alloc ?_ _)); refine blk_far ?_ NB349_360.out _; (with_reducible repeat (first | refine blk_drewN ?_ _ | refine blk_drew ?_ | refine blk_alloc ?_ _)); refine blk_far ?_ NB349_360.out _; (with_reducible repeat (first | refine blk_drewN ?_ _ | refine blk_drew ?_ | refine blk_alloc ?_ _)); exact BK349.out⟩
                    have n3_ : Aside0 (((((w51.setCell ⟨gb360, 0, none⟩ (.int .i64 t355)).setCell ⟨gb360, 1, none⟩ (.int .i64 t356)).setCell ⟨gb360, 2, none⟩ (.int .i64 t357)).setCell ⟨gb360, 3, none⟩ (.int .i64 t358)).heap[gb360]? = some (.cells #[.int .i64 t355, .int .i64 t356, .int .i64 t357, .int .i64 t358] 44 (0, 0))) := ⟨by (with_reducible repeat (first | refine blk_drewN ?_ _ | refine blk_drew ?_ | refine blk_alloc ?_ _)); refine blk_put (cs := #[.int .i64 t355, .int .i64 t356, .int .i64 t357, .int .i64 0]) ?_ 3 _ rfl; (with_reducible repeat (first | refine blk_drewN ?_ _ | refine blk_drew ?_ | refine blk_alloc ?_ _)); refine blk_put (cs := #[.int .i64 t355, .int .i64 t356, .int .i64 0, .int .i64 0]) ?_ 2 _ rfl; (with_reducible repeat (first | refine blk_drewN ?_ _ | refine blk_drew ?_ | refine blk_alloc ?_ _)); refine blk_put (cs := #[.int .i64 t355, .int .i64 0, .int .i64 0, .int .i64 0]) ?_ 1 _ rfl; (with_reducible repeat (first | refine blk_drewN ?_ _ | refine blk_drew ?_ | refine blk_alloc ?_ _)); refine blk_put (cs := #[.int .i64 0, .int .i64 0, .int .i64 0, .int .i64 0]) ?_ 0 _ rfl; (with_reducible repeat (first | refine blk_drewN ?_ _ | refine blk_drew ?_ | refine blk_alloc ?_ _)); exact BK360.out⟩
                    have n4_ : Aside0 (Below w.heap.size w ((((w51.setCell ⟨gb360, 0, none⟩ (.int .i64 t355)).setCell ⟨gb360, 1, none⟩ (.int .i64 t356)).setCell ⟨gb360, 2, none⟩ (.int .i64 t357)).setCell ⟨gb360, 3, none⟩ (.int .i64 t358))) := ⟨by repeat (first | (with_reducible first | exact HB.out | apply below_alloc | apply pw_below_drewN | apply below_drew1 | refine below_set ?_ GE331.out | refine below_set ?_ GE343.out | refine below_set ?_ GE349.out | refine below_set ?_ GE360.out) | exact HB.out)⟩
                    (try clear BK331)
                    (try clear BK343)
                    (try clear BK349)
                    (try clear BK360)
                    (try clear HB)
                    generalize ((((w51.setCell ⟨gb360, 0, none⟩ (.int .i64 t355)).setCell ⟨gb360, 1, none⟩ (.int .i64 t356)).setCell ⟨gb360, 2, none⟩ (.int .i64 t357)).setCell ⟨gb360, 3, none⟩ (.int .i64 t358)) = w56 at n0_ n1_ n2_ n3_ n4_ ⊢
                    have BK331 := n0_
                    have BK343 := n1_
                    have BK349 := n2_
                    have BK360 := n3_
                    have HB := n4_
                    clear n0_ n1_ n2_ n3_ n4_
                    have n0_ := Aside0.mk (blk_drew BK331.out)
                    have n1_ := Aside0.mk (blk_drew BK343.out)
                    have n2_ := Aside0.mk (blk_drew BK349.out)
                    have n3_ := Aside0.mk (blk_drew BK360.out)
                    have n4_ := Aside0.mk (below_drew1 HB.out)
                    clear BK331
                    clear BK343
                    clear BK349
                    clear BK360
                    clear HB
                    have BK331 := n0_
                    have BK343 := n1_
                    have BK349 := n2_
                    have BK360 := n3_
                    have HB := n4_
                    clear n0_ n1_ n2_ n3_ n4_
                    refine start_ (n := 28) (S := fun w' => w'.cell? ⟨gb360, 0, none⟩ = some (.int .i64 t355) ∧ w'.cell? ⟨gb360, 1, none⟩ = some (.int .i64 t356) ∧ w'.cell? ⟨gb360, 2, none⟩ = some (.int .i64 t357) ∧ w'.cell? ⟨gb360, 3, none⟩ = some (.int .i64 t358) ∧ w'.cell? ⟨gb331, 0, none⟩ = some (.int .i64 a0_0) ∧ w'.cell? ⟨gb331, 1, none⟩ = some (.int .i64 a0_1) ∧ w'.cell? ⟨gb331, 2, none⟩ = some (.int .i64 a0_2) ∧ w'.cell? ⟨gb331, 3, none⟩ = some (.int .i64 a0_3) ∧ w'.cell? ⟨gb343, 0, none⟩ = some (.int .i64 t338) ∧ w'.cell? ⟨gb343, 1, none⟩ = some (.int .i64 t339) ∧ w'.cell? ⟨gb343, 2, none⟩ = some (.int .i64 t340) ∧ w'.cell? ⟨gb343, 3, none⟩ = some (.int .i64 t341)) (ds := []) #[false, false, false, false, false, false, false, false, false, false, false, false, false, false, false, false, false, false, false, false, false, false, false, false, false, false, false, false] (by kernel_rfl) rfl rfl ⟨(blk_cell BK360.out 0).trans rfl, (blk_cell BK360.out 1).trans rfl, (blk_cell BK360.out 2).trans rfl, (blk_cell BK360.out 3).trans rfl, (blk_cell BK331.out 0).trans rfl, (blk_cell BK331.out 1).trans rfl, (blk_cell BK331.out 2).trans rfl, (blk_cell BK331.out 3).trans rfl, (blk_cell BK343.out 0).trans rfl, (blk_cell BK343.out 1).trans rfl, (blk_cell BK343.out 2).trans rfl, (blk_cell BK343.out 3).trans rfl⟩ (fun hHeld => ?_); refine with_tabW afterglowlaw14_PageKeys.tab9 afterglowlaw14_PageKeys.bits9 (fun HT_ HW_ => ?_)
                    generalize w56.drew = w57 at BK331 BK343 BK349 BK360 HB hHeld ⊢
                    refine one_ (i := 0) (N := some 49) #[true, false, false, false, false, false, false, false, false, false, false, false, false, false, false, false, false, false, false, false, false, false, false, false, false, false, false, false] rfl rfl (one_of HT_.out (by kernel_rfl)) (by decide) (fun K hK => ?_)
                    refine goes_ Tryd.func28 (by kernel_rfl) rfl #[] (by rfl) rfl rfl (by (try simp only [List.map_toArray, List.map_cons, List.map_nil]); first | done | rfl | (simp only [List.length_drop, List.length_take]; rfl)) ?_
                    with_reducible refine (afterglowlaw14_alive.calls kj10  true _ ?side1 A42.out).mono ?_
                    (case side1 => exact ⟨Good.below hG.out (by repeat (first | (with_reducible first | exact HB.out | apply below_alloc | apply pw_below_drewN | apply below_drew1 | refine below_set ?_ GE331.out | refine below_set ?_ GE343.out | refine below_set ?_ GE349.out | refine below_set ?_ GE360.out) | exact HB.out))⟩)
                    rintro e w58 ⟨rfl, hb⟩
                    refine ⟨_, rfl, ?_⟩
                    have n0_ := Aside0.mk (blk_below (g := gb331) (o := .cells #[.int .i64 a0_0, .int .i64 a0_1, .int .i64 a0_2, .int .i64 a0_3] 39 (0, 0)) (by (with_reducible repeat (first | refine blk_drewN ?_ _ | refine blk_drew ?_ | refine blk_alloc ?_ _)); exact BK331.out) hb)
                    have n1_ := Aside0.mk (blk_below (g := gb343) (o := .cells #[.int .i64 t338, .int .i64 t339, .int .i64 t340, .int .i64 t341] 44 (0, 0)) (by (with_reducible repeat (first | refine blk_drewN ?_ _ | refine blk_drew ?_ | refine blk_alloc ?_ _)); exact BK343.out) hb)
                    have n2_ := Aside0.mk (blk_below (g := gb349) (o := .cells #[.int .i64 t344, .int .i64 t345, .int .i64 t346, .int .i64 t347] 39 (0, 0)) (by (with_reducible repeat (first | refine blk_drewN ?_ _ | refine blk_drew ?_ | refine blk_alloc ?_ _)); exact BK349.out) hb)
                    have n3_ := Aside0.mk (blk_below (g := gb360) (o := .cells #[.int .i64 t355, .int .i64 t356, .int .i64 t357, .int .i64 t358] 44 (0, 0)) (by (with_reducible repeat (first | refine blk_drewN ?_ _ | refine blk_drew ?_ | refine blk_alloc ?_ _)); exact BK360.out) hb)
                    have n4_ := Aside0.mk (below_step (by repeat (first | (with_reducible first | exact HB.out | apply below_alloc | apply pw_below_drewN | apply below_drew1 | refine below_set ?_ GE331.out | refine below_set ?_ GE343.out | refine below_set ?_ GE349.out | refine below_set ?_ GE360.out) | exact HB.out)) hb)
                    clear BK331
                    clear BK343
                    clear BK349
                    clear BK360
                    clear HB
                    have BK331 := n0_
                    have BK343 := n1_
                    have BK349 := n2_
                    have BK360 := n3_
                    have HB := n4_
                    clear n0_ n1_ n2_ n3_ n4_
                    (try clear hb)
                    (try clear hb2)
                    (try clear hk)
                    (try clear hi)
                    refine hK.out _ _ ⟨(blk_cell BK360.out 0).trans rfl, (blk_cell BK360.out 1).trans rfl, (blk_cell BK360.out 2).trans rfl, (blk_cell BK360.out 3).trans rfl, (blk_cell BK331.out 0).trans rfl, (blk_cell BK331.out 1).trans rfl, (blk_cell BK331.out 2).trans rfl, (blk_cell BK331.out 3).trans rfl, (blk_cell BK343.out 0).trans rfl, (blk_cell BK343.out 1).trans rfl, (blk_cell BK343.out 2).trans rfl, (blk_cell BK343.out 3).trans rfl⟩ (fun hHeld => ?_)
                    clear hK K
                    refine norm_ (a' := ?_) ?_ ?_
                    rotate_left
                    · show Act.put _ (some 49) _ = _
                      simp only [Act.put, List.setIfInBounds_toArray, List.set_cons_zero, List.set_cons_succ, i64_w, i32_w]
                      rfl
                    refine pure_ (i := 1) (N := some 50) (v := ?_) (a' := ?_) #[true, true, false, false, false, false, false, false, false, false, false, false, false, false, false, false, false, false, false, false, false, false, false, false, false, false, false, false] rfl rfl (any_of HT_.out (by kernel_rfl)) (fun _ _ _ h => h) (Or.inl ⟨by rfl, ?_⟩) ?_ ?_
                    rotate_left
                    · intro w'
                      go_simp
                      with_reducible rfl
                    rotate_left
                    · simp only [Act.put, List.setIfInBounds_toArray, List.set_cons_zero, List.set_cons_succ, i64_w, i32_w]
                      rfl
                    refine pure_ (i := 2) (N := some 51) (v := ?_) (a' := ?_) #[true, true, true, false, false, false, false, false, false, false, false, false, false, false, false, false, false, false, false, false, false, false, false, false, false, false, false, false] rfl rfl (any_of HT_.out (by kernel_rfl)) (fun _ _ _ h => h) (Or.inl ⟨by rfl, ?_⟩) ?_ ?_
                    rotate_left
                    · intro w'
                      go_simp
                      with_reducible rfl
                    rotate_left
                    · simp only [Act.put, List.setIfInBounds_toArray, List.set_cons_zero, List.set_cons_succ, i64_w, i32_w]
                      rfl
                    refine pure_ (i := 3) (N := some 52) (v := ?_) (a' := ?_) #[true, true, true, true, false, false, false, false, false, false, false, false, false, false, false, false, false, false, false, false, false, false, false, false, false, false, false, false] rfl rfl (any_of HT_.out (by kernel_rfl)) (fun _ _ _ h => h) (Or.inl ⟨by rfl, ?_⟩) ?_ ?_
                    rotate_left
                    · intro w'
                      go_simp
                      with_reducible rfl
                    rotate_left
                    · simp only [Act.put, List.setIfInBounds_toArray, List.set_cons_zero, List.set_cons_succ, i64_w, i32_w]
                      rfl
                    refine pure_ (i := 4) (N := some 53) (v := ?_) (a' := ?_) #[true, true, true, true, true, false, false, false, false, false, false, false, false, false, false, false, false, false, false, false, false, false, false, false, false, false, false, false] rfl rfl (any_of HT_.out (by kernel_rfl)) (fun _ _ _ h => h) (Or.inl ⟨by rfl, ?_⟩) ?_ ?_
                    rotate_left
                    · intro w'
                      go_simp
                      with_reducible rfl
                    rotate_left
                    · simp only [Act.put, List.setIfInBounds_toArray, List.set_cons_zero, List.set_cons_succ, i64_w, i32_w]
                      rfl
                    refine pure_ (i := 5) (N := some 54) (v := ?_) (a' := ?_) #[true, true, true, true, true, true, false, false, false, false, false, false, false, false, false, false, false, false, false, false, false, false, false, false, false, false, false, false] rfl rfl (any_of HT_.out (by kernel_rfl)) (fun _ _ _ h => h) (Or.inl ⟨by rfl, ?_⟩) ?_ ?_
                    rotate_left
                    · intro w'
                      go_simp
                      with_reducible rfl
                    rotate_left
                    · simp only [Act.put, List.setIfInBounds_toArray, List.set_cons_zero, List.set_cons_succ, i64_w, i32_w]
                      rfl
                    refine pure_ (i := 6) (N := some 55) (v := ?_) (a' := ?_) #[true, true, true, true, true, true, true, false, false, false, false, false, false, false, false, false, false, false, false, false, false, false, false, false, false, false, false, false] rfl rfl (any_of HT_.out (by kernel_rfl)) (fun _ _ _ h => h) (Or.inl ⟨by rfl, ?_⟩) ?_ ?_
                    rotate_left
                    · intro w'
                      go_simp
                      with_reducible rfl
                    rotate_left
                    · simp only [Act.put, List.setIfInBounds_toArray, List.set_cons_zero, List.set_cons_succ, i64_w, i32_w]
                      rfl
                    refine pure_ (i := 7) (N := some 56) (v := ?_) (a' := ?_) #[true, true, true, true, true, true, true, true, false, false, false, false, false, false, false, false, false, false, false, false, false, false, false, false, false, false, false, false] rfl rfl (any_of HT_.out (by kernel_rfl)) (fun _ _ _ h => h) (Or.inl ⟨by rfl, ?_⟩) ?_ ?_
                    rotate_left
                    · intro w'
                      go_simp
                      with_reducible rfl
                    rotate_left
                    · simp only [Act.put, List.setIfInBounds_toArray, List.set_cons_zero, List.set_cons_succ, i64_w, i32_w]
                      rfl
                    refine pure_ (i := 8) (N := some 57) (v := ?_) (a' := ?_) #[true, true, true, true, true, true, true, true, true, false, false, false, false, false, false, false, false, false, false, false, false, false, false, false, false, false, false, false] rfl rfl (any_of HT_.out (by kernel_rfl)) (fun _ _ _ h => h) (Or.inl ⟨by rfl, ?_⟩) ?_ ?_
                    rotate_left
                    · intro w'
                      go_simp
                      with_reducible rfl
                    rotate_left
                    · simp only [Act.put, List.setIfInBounds_toArray, List.set_cons_zero, List.set_cons_succ, i64_w, i32_w]
                      rfl
                    refine pure_ (i := 9) (N := some 58) (v := ?_) (a' := ?_) #[true, true, true, true, true, true, true, true, true, true, false, false, false, false, false, false, false, false, false, false, false, false, false, false, false, false, false, false] rfl rfl (any_of HT_.out (by kernel_rfl)) (fun _ _ _ h => h) (Or.inl ⟨by rfl, ?_⟩) ?_ ?_
                    rotate_left
                    · intro w'
                      go_simp
                      with_reducible rfl
                    rotate_left
                    · simp only [Act.put, List.setIfInBounds_toArray, List.set_cons_zero, List.set_cons_succ, i64_w, i32_w]
                      rfl
                    refine pure_ (i := 10) (N := some 59) (v := ?_) (a' := ?_) #[true, true, true, true, true, true, true, true, true, true, true, false, false, false, false, false, false, false, false, false, false, false, false, false, false, false, false, false] rfl rfl (any_of HT_.out (by kernel_rfl)) (fun _ _ _ h => h) (Or.inl ⟨by rfl, ?_⟩) ?_ ?_
                    rotate_left
                    · intro w'
                      go_simp
                      with_reducible rfl
                    rotate_left
                    · simp only [Act.put, List.setIfInBounds_toArray, List.set_cons_zero, List.set_cons_succ, i64_w, i32_w]
                      rfl
                    refine take_ (i := 11) (N := some 60) (v := ?_) (a' := ?_) #[true, true, true, true, true, true, true, true, true, true, true, true, false, false, false, false, false, false, false, false, false, false, false, false, false, false, false, false] rfl rfl (take_ofW HT_.out HW_.out (by kernel_rfl)) (fun _ _ _ h => h) (Or.inl ⟨by rfl, ?_⟩) hHeld ?_ ?_
                    rotate_left
                    · rintro w' ⟨s0, s1, s2, s3, s4, s5, s6, s7, s8, s9, s10, s11⟩
                      go_simp
                      with_reducible rfl
                    rotate_left
                    · simp only [Act.put, List.setIfInBounds_toArray, List.set_cons_zero, List.set_cons_succ, i64_w, i32_w]
                      rfl
                    refine take_ (i := 13) (N := some 62) (v := ?_) (a' := ?_) #[true, true, true, true, true, true, true, true, true, true, true, true, false, true, false, false, false, false, false, false, false, false, false, false, false, false, false, false] rfl rfl (take_ofW HT_.out HW_.out (by kernel_rfl)) (fun _ _ _ h => h) (Or.inl ⟨by rfl, ?_⟩) hHeld ?_ ?_
                    rotate_left
                    · rintro w' ⟨s0, s1, s2, s3, s4, s5, s6, s7, s8, s9, s10, s11⟩
                      go_simp
                      with_reducible rfl
                    rotate_left
                    · simp only [Act.put, List.setIfInBounds_toArray, List.set_cons_zero, List.set_cons_succ, i64_w, i32_w]
                      rfl
                    refine one_ (i := 12) (N := some 61) #[true, true, true, true, true, true, true, true, true, true, true, true, true, true, false, false, false, false, false, false, false, false, false, false, false, false, false, false] rfl rfl (one_of HT_.out (by kernel_rfl)) (by decide) (fun K hK => ?_)
                    refine goes_ Tryd.func34 (by kernel_rfl) rfl #[.agg #[.int .i64 t355, .int .i64 t356, .int .i64 t357, .int .i64 t358]] (by rfl) rfl rfl (by (try simp only [List.map_toArray, List.map_cons, List.map_nil]); first | done | rfl | (simp only [List.length_drop, List.length_take]; rfl)) ?_
                    with_reducible refine (afterglowlaw08_Old.calls t355 t356 t357 t358 t362 t363 t364 t365 _ A46.out).mono ?_
                    rintro e w59 ⟨rfl, hb⟩
                    refine ⟨_, rfl, ?_⟩
                    have n0_ := Aside0.mk (blk_below (g := gb331) (o := .cells #[.int .i64 a0_0, .int .i64 a0_1, .int .i64 a0_2, .int .i64 a0_3] 39 (0, 0)) (by (with_reducible repeat (first | refine blk_drewN ?_ _ | refine blk_drew ?_ | refine blk_alloc ?_ _)); exact BK331.out) hb)
                    have n1_ := Aside0.mk (blk_below (g := gb343) (o := .cells #[.int .i64 t338, .int .i64 t339, .int .i64 t340, .int .i64 t341] 44 (0, 0)) (by (with_reducible repeat (first | refine blk_drewN ?_ _ | refine blk_drew ?_ | refine blk_alloc ?_ _)); exact BK343.out) hb)
                    have n2_ := Aside0.mk (blk_below (g := gb349) (o := .cells #[.int .i64 t344, .int .i64 t345, .int .i64 t346, .int .i64 t347] 39 (0, 0)) (by (with_reducible repeat (first | refine blk_drewN ?_ _ | refine blk_drew ?_ | refine blk_alloc ?_ _)); exact BK349.out) hb)
                    have n3_ := Aside0.mk (blk_below (g := gb360) (o := .cells #[.int .i64 t355, .int .i64 t356, .int .i64 t357, .int .i64 t358] 44 (0, 0)) (by (with_reducible repeat (first | refine blk_drewN ?_ _ | refine blk_drew ?_ | refine blk_alloc ?_ _)); exact BK360.out) hb)
                    have n4_ := Aside0.mk (below_step (by repeat (first | (with_reducible first | exact HB.out | apply below_alloc | apply pw_below_drewN | apply below_drew1 | refine below_set ?_ GE331.out | refine below_set ?_ GE343.out | refine below_set ?_ GE349.out | refine below_set ?_ GE360.out) | exact HB.out)) hb)
                    clear BK331
                    clear BK343
                    clear BK349
                    clear BK360
                    clear HB
                    have BK331 := n0_
                    have BK343 := n1_
                    have BK349 := n2_
                    have BK360 := n3_
                    have HB := n4_
                    clear n0_ n1_ n2_ n3_ n4_
                    (try clear hb)
                    (try clear hb2)
                    (try clear hk)
                    (try clear hi)
                    refine hK.out _ _ ⟨(blk_cell BK360.out 0).trans rfl, (blk_cell BK360.out 1).trans rfl, (blk_cell BK360.out 2).trans rfl, (blk_cell BK360.out 3).trans rfl, (blk_cell BK331.out 0).trans rfl, (blk_cell BK331.out 1).trans rfl, (blk_cell BK331.out 2).trans rfl, (blk_cell BK331.out 3).trans rfl, (blk_cell BK343.out 0).trans rfl, (blk_cell BK343.out 1).trans rfl, (blk_cell BK343.out 2).trans rfl, (blk_cell BK343.out 3).trans rfl⟩ (fun hHeld => ?_)
                    clear hK K
                    refine norm_ (a' := ?_) ?_ ?_
                    rotate_left
                    · show Act.put _ (some 61) _ = _
                      simp only [Act.put, List.setIfInBounds_toArray, List.set_cons_zero, List.set_cons_succ, i64_w, i32_w]
                      rfl
                    refine pure_ (i := 14) (N := some 63) (v := ?_) (a' := ?_) #[true, true, true, true, true, true, true, true, true, true, true, true, true, true, true, false, false, false, false, false, false, false, false, false, false, false, false, false] rfl rfl (any_of HT_.out (by kernel_rfl)) (fun _ _ _ h => h) (Or.inl ⟨by rfl, ?_⟩) ?_ ?_
                    rotate_left
                    · intro w'
                      go_simp
                      with_reducible rfl
                    rotate_left
                    · simp only [Act.put, List.setIfInBounds_toArray, List.set_cons_zero, List.set_cons_succ, i64_w, i32_w]
                      rfl
                    refine pure_ (i := 15) (N := some 64) (v := ?_) (a' := ?_) #[true, true, true, true, true, true, true, true, true, true, true, true, true, true, true, true, false, false, false, false, false, false, false, false, false, false, false, false] rfl rfl (any_of HT_.out (by kernel_rfl)) (fun _ _ _ h => h) (Or.inl ⟨by rfl, ?_⟩) ?_ ?_
                    rotate_left
                    · intro w'
                      go_simp
                      with_reducible rfl
                    rotate_left
                    · simp only [Act.put, List.setIfInBounds_toArray, List.set_cons_zero, List.set_cons_succ, i64_w, i32_w]
                      rfl
                    refine pure_ (i := 16) (N := some 65) (v := ?_) (a' := ?_) #[true, true, true, true, true, true, true, true, true, true, true, true, true, true, true, true, true, false, false, false, false, false, false, false, false, false, false, false] rfl rfl (any_of HT_.out (by kernel_rfl)) (fun _ _ _ h => h) (Or.inl ⟨by rfl, ?_⟩) ?_ ?_
                    rotate_left
                    · intro w'
                      go_simp
                      with_reducible rfl
                    rotate_left
                    · simp only [Act.put, List.setIfInBounds_toArray, List.set_cons_zero, List.set_cons_succ, i64_w, i32_w]
                      rfl
                    refine pure_ (i := 17) (N := some 66) (v := ?_) (a' := ?_) #[true, true, true, true, true, true, true, true, true, true, true, true, true, true, true, true, true, true, false, false, false, false, false, false, false, false, false, false] rfl rfl (any_of HT_.out (by kernel_rfl)) (fun _ _ _ h => h) (Or.inl ⟨by rfl, ?_⟩) ?_ ?_
                    rotate_left
                    · intro w'
                      go_simp
                      with_reducible rfl
                    rotate_left
                    · simp only [Act.put, List.setIfInBounds_toArray, List.set_cons_zero, List.set_cons_succ, i64_w, i32_w]
                      rfl
                    refine pure_ (i := 18) (N := some 67) (v := ?_) (a' := ?_) #[true, true, true, true, true, true, true, true, true, true, true, true, true, true, true, true, true, true, true, false, false, false, false, false, false, false, false, false] rfl rfl (any_of HT_.out (by kernel_rfl)) (fun _ _ _ h => h) (Or.inl ⟨by rfl, ?_⟩) ?_ ?_
                    rotate_left
                    · intro w'
                      go_simp
                      with_reducible rfl
                    rotate_left
                    · simp only [Act.put, List.setIfInBounds_toArray, List.set_cons_zero, List.set_cons_succ, i64_w, i32_w]
                      rfl
                    refine pure_ (i := 19) (N := some 68) (v := ?_) (a' := ?_) #[true, true, true, true, true, true, true, true, true, true, true, true, true, true, true, true, true, true, true, true, false, false, false, false, false, false, false, false] rfl rfl (any_of HT_.out (by kernel_rfl)) (fun _ _ _ h => h) (Or.inl ⟨by rfl, ?_⟩) ?_ ?_
                    rotate_left
                    · intro w'
                      go_simp
                      with_reducible rfl
                    rotate_left
                    · simp only [Act.put, List.setIfInBounds_toArray, List.set_cons_zero, List.set_cons_succ, i64_w, i32_w]
                      rfl
                    refine pure_ (i := 20) (N := some 69) (v := ?_) (a' := ?_) #[true, true, true, true, true, true, true, true, true, true, true, true, true, true, true, true, true, true, true, true, true, false, false, false, false, false, false, false] rfl rfl (any_of HT_.out (by kernel_rfl)) (fun _ _ _ h => h) (Or.inl ⟨by rfl, ?_⟩) ?_ ?_
                    rotate_left
                    · intro w'
                      go_simp
                      with_reducible rfl
                    rotate_left
                    · simp only [Act.put, List.setIfInBounds_toArray, List.set_cons_zero, List.set_cons_succ, i64_w, i32_w]
                      rfl
                    refine pure_ (i := 23) (N := some 72) (v := ?_) (a' := ?_) #[true, true, true, true, true, true, true, true, true, true, true, true, true, true, true, true, true, true, true, true, true, false, false, true, false, false, false, false] rfl rfl (any_of HT_.out (by kernel_rfl)) (fun _ _ _ h => h) (Or.inl ⟨by rfl, ?_⟩) ?_ ?_
                    rotate_left
                    · intro w'
                      go_simp
                      with_reducible rfl
                    rotate_left
                    · simp only [Act.put, List.setIfInBounds_toArray, List.set_cons_zero, List.set_cons_succ, i64_w, i32_w]
                      rfl
                    refine take_ (i := 21) (N := some 70) (v := ?_) (a' := ?_) #[true, true, true, true, true, true, true, true, true, true, true, true, true, true, true, true, true, true, true, true, true, true, false, true, false, false, false, false] rfl rfl (take_ofW HT_.out HW_.out (by kernel_rfl)) (fun _ _ _ h => h) (Or.inl ⟨by rfl, ?_⟩) hHeld ?_ ?_
                    rotate_left
                    · rintro w' ⟨s0, s1, s2, s3, s4, s5, s6, s7, s8, s9, s10, s11⟩
                      go_simp
                      with_reducible rfl
                    rotate_left
                    · simp only [Act.put, List.setIfInBounds_toArray, List.set_cons_zero, List.set_cons_succ, i64_w, i32_w]
                      rfl
                    refine one_ (i := 22) (N := some 71) #[true, true, true, true, true, true, true, true, true, true, true, true, true, true, true, true, true, true, true, true, true, true, true, true, false, false, false, false] rfl rfl (one_of HT_.out (by kernel_rfl)) (by decide) (fun K hK => ?_)
                    refine goes_ Tryd.func29 (by kernel_rfl) rfl #[.agg #[.int .i64 t338, .int .i64 t339, .int .i64 t340, .int .i64 t341]] (by rfl) rfl rfl (by (try simp only [List.map_toArray, List.map_cons, List.map_nil]); first | done | rfl | (simp only [List.length_drop, List.length_take]; rfl)) ?_
                    with_reducible refine (page_Key.calls t338 t339 t340 t341 t366 _ ?side1 A49.out).mono ?_
                    (case side1 => exact ⟨Good.below hG.out (by repeat (first | (with_reducible first | exact HB.out | apply below_alloc | apply pw_below_drewN | apply below_drew1 | refine below_set ?_ GE331.out | refine below_set ?_ GE343.out | refine below_set ?_ GE349.out | refine below_set ?_ GE360.out) | exact HB.out))⟩)
                    rintro e w60 ⟨rfl, hb⟩
                    refine ⟨_, rfl, ?_⟩
                    have n0_ := Aside0.mk (blk_below (g := gb331) (o := .cells #[.int .i64 a0_0, .int .i64 a0_1, .int .i64 a0_2, .int .i64 a0_3] 39 (0, 0)) (by (with_reducible repeat (first | refine blk_drewN ?_ _ | refine blk_drew ?_ | refine blk_alloc ?_ _)); exact BK331.out) hb)
                    have n1_ := Aside0.mk (blk_below (g := gb343) (o := .cells #[.int .i64 t338, .int .i64 t339, .int .i64 t340, .int .i64 t341] 44 (0, 0)) (by (with_reducible repeat (first | refine blk_drewN ?_ _ | refine blk_drew ?_ | refine blk_alloc ?_ _)); exact BK343.out) hb)
                    have n2_ := Aside0.mk (blk_below (g := gb349) (o := .cells #[.int .i64 t344, .int .i64 t345, .int .i64 t346, .int .i64 t347] 39 (0, 0)) (by (with_reducible repeat (first | refine blk_drewN ?_ _ | refine blk_drew ?_ | refine blk_alloc ?_ _)); exact BK349.out) hb)
                    have n3_ := Aside0.mk (blk_below (g := gb360) (o := .cells #[.int .i64 t355, .int .i64 t356, .int .i64 t357, .int .i64 t358] 44 (0, 0)) (by (with_reducible repeat (first | refine blk_drewN ?_ _ | refine blk_drew ?_ | refine blk_alloc ?_ _)); exact BK360.out) hb)
                    have n4_ := Aside0.mk (below_step (by repeat (first | (with_reducible first | exact HB.out | apply below_alloc | apply pw_below_drewN | apply below_drew1 | refine below_set ?_ GE331.out | refine below_set ?_ GE343.out | refine below_set ?_ GE349.out | refine below_set ?_ GE360.out) | exact HB.out)) hb)
                    clear BK331
                    clear BK343
                    clear BK349
                    clear BK360
                    clear HB
                    have BK331 := n0_
                    have BK343 := n1_
                    have BK349 := n2_
                    have BK360 := n3_
                    have HB := n4_
                    clear n0_ n1_ n2_ n3_ n4_
                    (try clear hb)
                    (try clear hb2)
                    (try clear hk)
                    (try clear hi)
                    refine hK.out _ _ ⟨(blk_cell BK360.out 0).trans rfl, (blk_cell BK360.out 1).trans rfl, (blk_cell BK360.out 2).trans rfl, (blk_cell BK360.out 3).trans rfl, (blk_cell BK331.out 0).trans rfl, (blk_cell BK331.out 1).trans rfl, (blk_cell BK331.out 2).trans rfl, (blk_cell BK331.out 3).trans rfl, (blk_cell BK343.out 0).trans rfl, (blk_cell BK343.out 1).trans rfl, (blk_cell BK343.out 2).trans rfl, (blk_cell BK343.out 3).trans rfl⟩ (fun hHeld => ?_)
                    clear hK K
                    refine norm_ (a' := ?_) ?_ ?_
                    rotate_left
                    · show Act.put _ (some 71) _ = _
                      simp only [Act.put, List.setIfInBounds_toArray, List.set_cons_zero, List.set_cons_succ, i64_w, i32_w]
                      rfl
                    refine pure_ (i := 24) (N := some 73) (v := ?_) (a' := ?_) #[true, true, true, true, true, true, true, true, true, true, true, true, true, true, true, true, true, true, true, true, true, true, true, true, true, false, false, false] rfl rfl (any_of HT_.out (by kernel_rfl)) (fun _ _ _ h => h) (Or.inl ⟨by rfl, ?_⟩) ?_ ?_
                    rotate_left
                    · intro w'
                      go_simp
                      with_reducible rfl
                    rotate_left
                    · simp only [Act.put, List.setIfInBounds_toArray, List.set_cons_zero, List.set_cons_succ, i64_w, i32_w]
                      rfl
                    refine pure_ (i := 25) (N := some 74) (v := ?_) (a' := ?_) #[true, true, true, true, true, true, true, true, true, true, true, true, true, true, true, true, true, true, true, true, true, true, true, true, true, true, false, false] rfl rfl (any_of HT_.out (by kernel_rfl)) (fun _ _ _ h => h) (Or.inl ⟨by rfl, ?_⟩) ?_ ?_
                    rotate_left
                    · intro w'
                      go_simp
                      with_reducible rfl
                    rotate_left
                    · simp only [Act.put, List.setIfInBounds_toArray, List.set_cons_zero, List.set_cons_succ, i64_w, i32_w]
                      rfl
                    refine pure_ (i := 26) (N := some 75) (v := ?_) (a' := ?_) #[true, true, true, true, true, true, true, true, true, true, true, true, true, true, true, true, true, true, true, true, true, true, true, true, true, true, true, false] rfl rfl (any_of HT_.out (by kernel_rfl)) (fun _ _ _ h => h) (Or.inl ⟨by rfl, ?_⟩) ?_ ?_
                    rotate_left
                    · intro w'
                      go_simp
                      with_reducible rfl
                    rotate_left
                    · simp only [Act.put, List.setIfInBounds_toArray, List.set_cons_zero, List.set_cons_succ, i64_w, i32_w]
                      rfl
                    refine pure_ (i := 27) (N := some 4) (v := ?_) (a' := ?_) #[true, true, true, true, true, true, true, true, true, true, true, true, true, true, true, true, true, true, true, true, true, true, true, true, true, true, true, true] rfl rfl (any_of HT_.out (by kernel_rfl)) (fun _ _ _ h => h) (Or.inl ⟨by rfl, ?_⟩) ?_ ?_
                    rotate_left
                    · intro w'
                      go_simp
                      with_reducible rfl
                    rotate_left
                    · simp only [Act.put, List.setIfInBounds_toArray, List.set_cons_zero, List.set_cons_succ, i64_w, i32_w]
                      rfl
                    refine done_ (done_of HT_.out (by kernel_rfl)) ?_
                    try go_wp2
                    go_ret
                    exact ⟨by first | rfl | (simp [errW_none, errW_some] <;> rfl) | (simp [*, errW_none, errW_some] <;> rfl), by repeat (first | (with_reducible first | exact HB.out | apply below_alloc | apply pw_below_drewN | apply below_drew1 | refine below_set ?_ GE331.out | refine below_set ?_ GE343.out | refine below_set ?_ GE349.out | refine below_set ?_ GE360.out) | exact HB.out)⟩
                  · replace c48 := Bool.eq_false_iff.mpr c48
                    subst c48
                    have H1 : (some true) = some r := by rw [if_neg (show ¬ (false = true) by decide)] at H; exact H
                    clear H
                    have H := H1
                    clear H1
                    obtain rfl := Option.some.inj H
                    try go_wp2_with (first | ((with_reducible refine gate_callee (f := 31) rfl ?_); refine goesL_ (some 46) rfl rfl Tryd.func31 (by kernel_rfl) rfl #[.string t337] rfl (by (try simp only [List.map_toArray, List.map_cons, List.map_nil]); first | done | rfl | (simp only [List.length_drop, List.length_take]; rfl)) ?_; (with_reducible refine (page_Parse.calls t337 t355 t356 t357 t358 true _ ?side1 A41.out).mono ?_); (case side1 => exact ⟨Good.below hG.out (by repeat (first | (with_reducible first | exact HB.out | apply below_alloc | apply pw_below_drewN | apply below_drew1 | refine below_set ?_ GE331.out | refine below_set ?_ GE343.out | refine below_set ?_ GE349.out) | exact HB.out))⟩); rintro e w61 ⟨rfl, hb⟩; refine ⟨_, rfl, ?_⟩; have n0_ := Aside0.mk (blk_below (g := gb331) (o := .cells #[.int .i64 a0_0, .int .i64 a0_1, .int .i64 a0_2, .int .i64 a0_3] 39 (0, 0)) (by (with_reducible repeat (first | refine blk_drewN ?_ _ | refine blk_drew ?_ | refine blk_alloc ?_ _)); exact BK331.out) hb); have n1_ := Aside0.mk (blk_below (g := gb343) (o := .cells #[.int .i64 t338, .int .i64 t339, .int .i64 t340, .int .i64 t341] 44 (0, 0)) (by (with_reducible repeat (first | refine blk_drewN ?_ _ | refine blk_drew ?_ | refine blk_alloc ?_ _)); exact BK343.out) hb); have n2_ := Aside0.mk (blk_below (g := gb349) (o := .cells #[.int .i64 t344, .int .i64 t345, .int .i64 t346, .int .i64 t347] 39 (0, 0)) (by (with_reducible repeat (first | refine blk_drewN ?_ _ | refine blk_drew ?_ | refine blk_alloc ?_ _)); exact BK349.out) hb); have n3_ := Aside0.mk (below_step (by repeat (first | (with_reducible first | exact HB.out | apply below_alloc | apply pw_below_drewN | apply below_drew1 | refine below_set ?_ GE331.out | refine below_set ?_ GE343.out | refine below_set ?_ GE349.out) | exact HB.out)) hb); clear BK331; clear BK343; clear BK349; clear HB; have BK331 := n0_; have BK343 := n1_; have BK349 := n2_; have HB := n3_; clear n0_ n1_ n2_ n3_; (try clear hb); (try clear hb2); (try clear hk); (try clear hi)) | ((with_reducible refine gate_dst (N := 10) rfl ?_); refine box_event ?hg (N := 10) ?hd (cs := #[.int .i64 0, .int .i64 0, .int .i64 0, .int .i64 0]) (t := 44) ?hr ?_; (case hd => rfl); (case hg => rfl); (case hr => first | (go_simp; done) | (go_simp; rfl)); intro gb360 hg w62 hbox hb; have n0_ := Aside0.mk (blk_below (g := gb331) (o := .cells #[.int .i64 a0_0, .int .i64 a0_1, .int .i64 a0_2, .int .i64 a0_3] 39 (0, 0)) (by (with_reducible repeat (first | refine blk_drewN ?_ _ | refine blk_drew ?_ | refine blk_alloc ?_ _)); exact BK331.out) hb); have n1_ := Aside0.mk (blk_below (g := gb343) (o := .cells #[.int .i64 t338, .int .i64 t339, .int .i64 t340, .int .i64 t341] 44 (0, 0)) (by (with_reducible repeat (first | refine blk_drewN ?_ _ | refine blk_drew ?_ | refine blk_alloc ?_ _)); exact BK343.out) hb); have n2_ := Aside0.mk (blk_below (g := gb349) (o := .cells #[.int .i64 t344, .int .i64 t345, .int .i64 t346, .int .i64 t347] 39 (0, 0)) (by (with_reducible repeat (first | refine blk_drewN ?_ _ | refine blk_drew ?_ | refine blk_alloc ?_ _)); exact BK349.out) hb); have n3_ := Aside0.mk (below_step (by repeat (first | (with_reducible first | exact HB.out | apply below_alloc | apply pw_below_drewN | apply below_drew1 | refine below_set ?_ GE331.out | refine below_set ?_ GE343.out | refine below_set ?_ GE349.out) | exact HB.out)) hb); have n4_ := Aside0.mk (hbox); have n5_ := Aside0.mk ((by rw [hg]; exact (below_size (by repeat (first | (with_reducible first | exact HB.out | apply below_alloc | apply pw_below_drewN | apply below_drew1 | refine below_set ?_ GE331.out | refine below_set ?_ GE343.out | refine below_set ?_ GE349.out) | exact HB.out))) : w.heap.size ≤ gb360)); have n6_ := Aside0.mk ((by rw [hg]; exact (below_size (by repeat (first | (with_reducible first | exact HB.out | apply below_alloc | apply pw_below_drewN | apply below_drew1 | refine below_set ?_ GE331.out | refine below_set ?_ GE343.out | refine below_set ?_ GE349.out) | exact HB.out))) : w.heap.size ≤ gb360)); have n7_ := Aside0.mk ((by rw [hg]; exact Nat.ne_of_lt (blk_lt (g := gb331) (o := .cells #[.int .i64 a0_0, .int .i64 a0_1, .int .i64 a0_2, .int .i64 a0_3] 39 (0, 0)) (by (with_reducible repeat (first | refine blk_drewN ?_ _ | refine blk_drew ?_ | refine blk_alloc ?_ _)); exact BK331.out)) : gb331 ≠ gb360)); have n8_ := Aside0.mk ((by rw [hg]; exact Nat.ne_of_gt (blk_lt (g := gb331) (o := .cells #[.int .i64 a0_0, .int .i64 a0_1, .int .i64 a0_2, .int .i64 a0_3] 39 (0, 0)) (by (with_reducible repeat (first | refine blk_drewN ?_ _ | refine blk_drew ?_ | refine blk_alloc ?_ _)); exact BK331.out)) : gb360 ≠ gb331)); have n9_ := Aside0.mk ((by rw [hg]; exact Nat.ne_of_lt (blk_lt (g := gb343) (o := .cells #[.int .i64 t338, .int .i64 t339, .int .i64 t340, .int .i64 t341] 44 (0, 0)) (by (with_reducible repeat (first | refine blk_drewN ?_ _ | refine blk_drew ?_ | refine blk_alloc ?_ _)); exact BK343.out)) : gb343 ≠ gb360)); have n10_ := Aside0.mk ((by rw [hg]; exact Nat.ne_of_gt (blk_lt (g := gb343) (o := .cells #[.int .i64 t338, .int .i64 t339, .int .i64 t340, .int .i64 t341] 44 (0, 0)) (by (with_reducible repeat (first | refine blk_drewN ?_ _ | refine blk_drew ?_ | refine blk_alloc ?_ _)); exact BK343.out)) : gb360 ≠ gb343)); have n11_ := Aside0.mk ((by rw [hg]; exact Nat.ne_of_lt (blk_lt (g := gb349) (o := .cells #[.int .i64 t344, .int .i64 t345, .int .i64 t346, .int .i64 t347] 39 (0, 0)) (by (with_reducible repeat (first | refine blk_drewN ?_ _ | refine blk_drew ?_ | refine blk_alloc ?_ _)); exact BK349.out)) : gb349 ≠ gb360)); have n12_ := Aside0.mk ((by rw [hg]; exact Nat.ne_of_gt (blk_lt (g := gb349) (o := .cells #[.int .i64 t344, .int .i64 t345, .int .i64 t346, .int .i64 t347] 39 (0, 0)) (by (with_reducible repeat (first | refine blk_drewN ?_ _ | refine blk_drew ?_ | refine blk_alloc ?_ _)); exact BK349.out)) : gb360 ≠ gb349)); clear BK331; clear BK343; clear BK349; clear HB; have BK331 := n0_; have BK343 := n1_; have BK349 := n2_; have HB := n3_; have BK360 := n4_; have GW360 := n5_; have GE360 := n6_; have NB331_360 := n7_; have NB360_331 := n8_; have NB343_360 := n9_; have NB360_343 := n10_; have NB349_360 := n11_; have NB360_349 := n12_; clear n0_ n1_ n2_ n3_ n4_ n5_ n6_ n7_ n8_ n9_ n10_ n11_ n12_; clear hb hbox hg; have hnb63 := NB360_331.out; have hnc63 := NB331_360.out; have hnb64 := NB360_343.out; have hnc64 := NB343_360.out; have hnb65 := NB360_349.out; have hnc65 := NB349_360.out; have hcz66_0 : w62.cell? ⟨gb360, 0, none⟩ = some (.int .i64 0) := (blk_cell BK360.out 0).trans rfl; have hcz66_1 : w62.cell? ⟨gb360, 1, none⟩ = some (.int .i64 0) := (blk_cell BK360.out 1).trans rfl; have hcz66_2 : w62.cell? ⟨gb360, 2, none⟩ = some (.int .i64 0) := (blk_cell BK360.out 2).trans rfl; have hcz66_3 : w62.cell? ⟨gb360, 3, none⟩ = some (.int .i64 0) := (blk_cell BK360.out 3).trans rfl; have hfz66_0 := blk_frozen BK360.out 0; have hfz66_1 := blk_frozen BK360.out 1; have hfz66_2 := blk_frozen BK360.out 2; have hfz66_3 := blk_frozen BK360.out 3))
                    have n0_ : Aside0 (((((w62.setCell ⟨gb360, 0, none⟩ (.int .i64 t355)).setCell ⟨gb360, 1, none⟩ (.int .i64 t356)).setCell ⟨gb360, 2, none⟩ (.int .i64 t357)).setCell ⟨gb360, 3, none⟩ (.int .i64 t358)).heap[gb331]? = some (.cells #[.int .i64 a0_0, .int .i64 a0_1, .int .i64 a0_2, .int .i64 a0_3] 39 (0, 0))) := ⟨by (with_reducible repeat (first | refine blk_drewN ?_ _ | refine blk_drew ?_ | refine blk_alloc ?_ _)); refine blk_far ?_ NB331_360.out _; (with_reducible repeat (first | refine blk_drewN ?_ _ | refine blk_drew ?_ | refine blk_alloc ?_ _)); refine blk_far ?_ NB331_360.out _; (with_reducible repeat (first | refine blk_drewN ?_ _ | refine blk_drew ?_ | refine blk_alloc ?_ _)); refine blk_far ?_ NB331_360.out _; (with_reducible repeat (first | refine blk_drewN ?_ _ | refine blk_drew ?_ | refine blk_alloc ?_ _)); refine blk_far ?_ NB331_360.out _; (with_reducible repeat (first | refine blk_drewN ?_ _ | refine blk_drew ?_ | refine blk_alloc ?_ _)); exact BK331.out⟩
                    have n1_ : Aside0 (((((w62.setCell ⟨gb360, 0, none⟩ (.int .i64 t355)).setCell ⟨gb360, 1, none⟩ (.int .i64 t356)).setCell ⟨gb360, 2, none⟩ (.int .i64 t357)).setCell ⟨gb360, 3, none⟩ (.int .i64 t358)).heap[gb343]? = some (.cells #[.int .i64 t338, .int .i64 t339, .int .i64 t340, .int .i64 t341] 44 (0, 0))) := ⟨by (with_reducible repeat (first | refine blk_drewN ?_ _ | refine blk_drew ?_ | refine blk_alloc ?_ _)); refine blk_far ?_ NB343_360.out _; (with_reducible repeat (first | refine blk_drewN ?_ _ | refine blk_drew ?_ | refine blk_alloc ?_ _)); refine blk_far ?_ NB343_360.out _; (with_reducible repeat (first | refine blk_drewN ?_ _ | refine blk_drew ?_ | refine blk_alloc ?_ _)); refine blk_far ?_ NB343_360.out _; (with_reducible repeat (first | refine blk_drewN ?_ _ | refine blk_drew ?_ | refine blk_alloc ?_ _)); refine blk_far ?_ NB343_360.out _; (with_reducible repeat (first | refine blk_drewN ?_ _ | refine blk_drew ?_ | refine blk_alloc ?_ _)); exact BK343.out⟩
                    have n2_ : Aside0 (((((w62.setCell ⟨gb360, 0, none⟩ (.int .i64 t355)).setCell ⟨gb360, 1, none⟩ (.int .i64 t356)).setCell ⟨gb360, 2, none⟩ (.int .i64 t357)).setCell ⟨gb360, 3, none⟩ (.int .i64 t358)).heap[gb349]? = some (.cells #[.int .i64 t344, .int .i64 t345, .int .i64 t346, .int .i64 t347] 39 (0, 0))) := ⟨by (with_reducible repeat (first | refine blk_drewN ?_ _ | refine blk_drew ?_ | refine blk_alloc ?_ _)); refine blk_far ?_ NB349_360.out _; (with_reducible repeat (first | refine blk_drewN ?_ _ | refine blk_drew ?_ | refine blk_alloc ?_ _)); refine blk_far ?_ NB349_360.out _; (with_reducible repeat (first | refine blk_drewN ?_ _ | refine blk_drew ?_ | refine blk_alloc ?_ _)); refine blk_far ?_ NB349_360.out _; (with_reducible repeat (first | refine blk_drewN ?_ _ | refine blk_drew ?_ | refine blk_alloc ?_ _)); refine blk_far ?_ NB349_360.out _; (with_reducible repeat (first | refine blk_drewN ?_ _ | refine blk_drew ?_ | refine blk_alloc ?_ _)); exact BK349.out⟩
                    have n3_ : Aside0 (((((w62.setCell ⟨gb360, 0, none⟩ (.int .i64 t355)).setCell ⟨gb360, 1, none⟩ (.int .i64 t356)).setCell ⟨gb360, 2, none⟩ (.int .i64 t357)).setCell ⟨gb360, 3, none⟩ (.int .i64 t358)).heap[gb360]? = some (.cells #[.int .i64 t355, .int .i64 t356, .int .i64 t357, .int .i64 t358] 44 (0, 0))) := ⟨by (with_reducible repeat (first | refine blk_drewN ?_ _ | refine blk_drew ?_ | refine blk_alloc ?_ _)); refine blk_put (cs := #[.int .i64 t355, .int .i64 t356, .int .i64 t357, .int .i64 0]) ?_ 3 _ rfl; (with_reducible repeat (first | refine blk_drewN ?_ _ | refine blk_drew ?_ | refine blk_alloc ?_ _)); refine blk_put (cs := #[.int .i64 t355, .int .i64 t356, .int .i64 0, .int .i64 0]) ?_ 2 _ rfl; (with_reducible repeat (first | refine blk_drewN ?_ _ | refine blk_drew ?_ | refine blk_alloc ?_ _)); refine blk_put (cs := #[.int .i64 t355, .int .i64 0, .int .i64 0, .int .i64 0]) ?_ 1 _ rfl; (with_reducible repeat (first | refine blk_drewN ?_ _ | refine blk_drew ?_ | refine blk_alloc ?_ _)); refine blk_put (cs := #[.int .i64 0, .int .i64 0, .int .i64 0, .int .i64 0]) ?_ 0 _ rfl; (with_reducible repeat (first | refine blk_drewN ?_ _ | refine blk_drew ?_ | refine blk_alloc ?_ _)); exact BK360.out⟩
                    have n4_ : Aside0 (Below w.heap.size w ((((w62.setCell ⟨gb360, 0, none⟩ (.int .i64 t355)).setCell ⟨gb360, 1, none⟩ (.int .i64 t356)).setCell ⟨gb360, 2, none⟩ (.int .i64 t357)).setCell ⟨gb360, 3, none⟩ (.int .i64 t358))) := ⟨by repeat (first | (with_reducible first | exact HB.out | apply below_alloc | apply pw_below_drewN | apply below_drew1 | refine below_set ?_ GE331.out | refine below_set ?_ GE343.out | refine below_set ?_ GE349.out | refine below_set ?_ GE360.out) | exact HB.out)⟩
                    (try clear BK331)
                    (try clear BK343)
                    (try clear BK349)
                    (try clear BK360)
                    (try clear HB)
                    generalize ((((w62.setCell ⟨gb360, 0, none⟩ (.int .i64 t355)).setCell ⟨gb360, 1, none⟩ (.int .i64 t356)).setCell ⟨gb360, 2, none⟩ (.int .i64 t357)).setCell ⟨gb360, 3, none⟩ (.int .i64 t358)) = w67 at n0_ n1_ n2_ n3_ n4_ ⊢
                    have BK331 := n0_
                    have BK343 := n1_
                    have BK349 := n2_
                    have BK360 := n3_
                    have HB := n4_
                    clear n0_ n1_ n2_ n3_ n4_
                    have n0_ := Aside0.mk (blk_drew BK331.out)
                    have n1_ := Aside0.mk (blk_drew BK343.out)
                    have n2_ := Aside0.mk (blk_drew BK349.out)
                    have n3_ := Aside0.mk (blk_drew BK360.out)
                    have n4_ := Aside0.mk (below_drew1 HB.out)
                    clear BK331
                    clear BK343
                    clear BK349
                    clear BK360
                    clear HB
                    have BK331 := n0_
                    have BK343 := n1_
                    have BK349 := n2_
                    have BK360 := n3_
                    have HB := n4_
                    clear n0_ n1_ n2_ n3_ n4_
                    refine start_ (n := 28) (S := fun w' => w'.cell? ⟨gb360, 0, none⟩ = some (.int .i64 t355) ∧ w'.cell? ⟨gb360, 1, none⟩ = some (.int .i64 t356) ∧ w'.cell? ⟨gb360, 2, none⟩ = some (.int .i64 t357) ∧ w'.cell? ⟨gb360, 3, none⟩ = some (.int .i64 t358) ∧ w'.cell? ⟨gb331, 0, none⟩ = some (.int .i64 a0_0) ∧ w'.cell? ⟨gb331, 1, none⟩ = some (.int .i64 a0_1) ∧ w'.cell? ⟨gb331, 2, none⟩ = some (.int .i64 a0_2) ∧ w'.cell? ⟨gb331, 3, none⟩ = some (.int .i64 a0_3)) (ds := []) #[false, false, false, false, false, false, false, false, false, false, false, false, false, false, false, false, false, false, false, false, false, false, false, false, false, false, false, false] (by kernel_rfl) rfl rfl ⟨(blk_cell BK360.out 0).trans rfl, (blk_cell BK360.out 1).trans rfl, (blk_cell BK360.out 2).trans rfl, (blk_cell BK360.out 3).trans rfl, (blk_cell BK331.out 0).trans rfl, (blk_cell BK331.out 1).trans rfl, (blk_cell BK331.out 2).trans rfl, (blk_cell BK331.out 3).trans rfl⟩ (fun hHeld => ?_); refine with_tabW afterglowlaw14_PageKeys.tab9 afterglowlaw14_PageKeys.bits9 (fun HT_ HW_ => ?_)
                    generalize w67.drew = w68 at BK331 BK343 BK349 BK360 HB hHeld ⊢
                    refine one_ (i := 0) (N := some 49) #[true, false, false, false, false, false, false, false, false, false, false, false, false, false, false, false, false, false, false, false, false, false, false, false, false, false, false, false] rfl rfl (one_of HT_.out (by kernel_rfl)) (by decide) (fun K hK => ?_)
                    refine goes_ Tryd.func28 (by kernel_rfl) rfl #[] (by rfl) rfl rfl (by (try simp only [List.map_toArray, List.map_cons, List.map_nil]); first | done | rfl | (simp only [List.length_drop, List.length_take]; rfl)) ?_
                    with_reducible refine (afterglowlaw14_alive.calls kj10  true _ ?side1 A42.out).mono ?_
                    (case side1 => exact ⟨Good.below hG.out (by repeat (first | (with_reducible first | exact HB.out | apply below_alloc | apply pw_below_drewN | apply below_drew1 | refine below_set ?_ GE331.out | refine below_set ?_ GE343.out | refine below_set ?_ GE349.out | refine below_set ?_ GE360.out) | exact HB.out))⟩)
                    rintro e w69 ⟨rfl, hb⟩
                    refine ⟨_, rfl, ?_⟩
                    have n0_ := Aside0.mk (blk_below (g := gb331) (o := .cells #[.int .i64 a0_0, .int .i64 a0_1, .int .i64 a0_2, .int .i64 a0_3] 39 (0, 0)) (by (with_reducible repeat (first | refine blk_drewN ?_ _ | refine blk_drew ?_ | refine blk_alloc ?_ _)); exact BK331.out) hb)
                    have n1_ := Aside0.mk (blk_below (g := gb343) (o := .cells #[.int .i64 t338, .int .i64 t339, .int .i64 t340, .int .i64 t341] 44 (0, 0)) (by (with_reducible repeat (first | refine blk_drewN ?_ _ | refine blk_drew ?_ | refine blk_alloc ?_ _)); exact BK343.out) hb)
                    have n2_ := Aside0.mk (blk_below (g := gb349) (o := .cells #[.int .i64 t344, .int .i64 t345, .int .i64 t346, .int .i64 t347] 39 (0, 0)) (by (with_reducible repeat (first | refine blk_drewN ?_ _ | refine blk_drew ?_ | refine blk_alloc ?_ _)); exact BK349.out) hb)
                    have n3_ := Aside0.mk (blk_below (g := gb360) (o := .cells #[.int .i64 t355, .int .i64 t356, .int .i64 t357, .int .i64 t358] 44 (0, 0)) (by (with_reducible repeat (first | refine blk_drewN ?_ _ | refine blk_drew ?_ | refine blk_alloc ?_ _)); exact BK360.out) hb)
                    have n4_ := Aside0.mk (below_step (by repeat (first | (with_reducible first | exact HB.out | apply below_alloc | apply pw_below_drewN | apply below_drew1 | refine below_set ?_ GE331.out | refine below_set ?_ GE343.out | refine below_set ?_ GE349.out | refine below_set ?_ GE360.out) | exact HB.out)) hb)
                    clear BK331
                    clear BK343
                    clear BK349
                    clear BK360
                    clear HB
                    have BK331 := n0_
                    have BK343 := n1_
                    have BK349 := n2_
                    have BK360 := n3_
                    have HB := n4_
                    clear n0_ n1_ n2_ n3_ n4_
                    (try clear hb)
                    (try clear hb2)
                    (try clear hk)
                    (try clear hi)
                    refine hK.out _ _ ⟨(blk_cell BK360.out 0).trans rfl, (blk_cell BK360.out 1).trans rfl, (blk_cell BK360.out 2).trans rfl, (blk_cell BK360.out 3).trans rfl, (blk_cell BK331.out 0).trans rfl, (blk_cell BK331.out 1).trans rfl, (blk_cell BK331.out 2).trans rfl, (blk_cell BK331.out 3).trans rfl⟩ (fun hHeld => ?_)
                    clear hK K
                    refine norm_ (a' := ?_) ?_ ?_
                    rotate_left
                    · show Act.put _ (some 49) _ = _
                      simp only [Act.put, List.setIfInBounds_toArray, List.set_cons_zero, List.set_cons_succ, i64_w, i32_w]
                      rfl
                    refine pure_ (i := 1) (N := some 50) (v := ?_) (a' := ?_) #[true, true, false, false, false, false, false, false, false, false, false, false, false, false, false, false, false, false, false, false, false, false, false, false, false, false, false, false] rfl rfl (any_of HT_.out (by kernel_rfl)) (fun _ _ _ h => h) (Or.inl ⟨by rfl, ?_⟩) ?_ ?_
                    rotate_left
                    · intro w'
                      go_simp
                      with_reducible rfl
                    rotate_left
                    · simp only [Act.put, List.setIfInBounds_toArray, List.set_cons_zero, List.set_cons_succ, i64_w, i32_w]
                      rfl
                    refine pure_ (i := 2) (N := some 51) (v := ?_) (a' := ?_) #[true, true, true, false, false, false, false, false, false, false, false, false, false, false, false, false, false, false, false, false, false, false, false, false, false, false, false, false] rfl rfl (any_of HT_.out (by kernel_rfl)) (fun _ _ _ h => h) (Or.inl ⟨by rfl, ?_⟩) ?_ ?_
                    rotate_left
                    · intro w'
                      go_simp
                      with_reducible rfl
                    rotate_left
                    · simp only [Act.put, List.setIfInBounds_toArray, List.set_cons_zero, List.set_cons_succ, i64_w, i32_w]
                      rfl
                    refine pure_ (i := 3) (N := some 52) (v := ?_) (a' := ?_) #[true, true, true, true, false, false, false, false, false, false, false, false, false, false, false, false, false, false, false, false, false, false, false, false, false, false, false, false] rfl rfl (any_of HT_.out (by kernel_rfl)) (fun _ _ _ h => h) (Or.inl ⟨by rfl, ?_⟩) ?_ ?_
                    rotate_left
                    · intro w'
                      go_simp
                      with_reducible rfl
                    rotate_left
                    · simp only [Act.put, List.setIfInBounds_toArray, List.set_cons_zero, List.set_cons_succ, i64_w, i32_w]
                      rfl
                    refine pure_ (i := 4) (N := some 53) (v := ?_) (a' := ?_) #[true, true, true, true, true, false, false, false, false, false, false, false, false, false, false, false, false, false, false, false, false, false, false, false, false, false, false, false] rfl rfl (any_of HT_.out (by kernel_rfl)) (fun _ _ _ h => h) (Or.inl ⟨by rfl, ?_⟩) ?_ ?_
                    rotate_left
                    · intro w'
                      go_simp
                      with_reducible rfl
                    rotate_left
                    · simp only [Act.put, List.setIfInBounds_toArray, List.set_cons_zero, List.set_cons_succ, i64_w, i32_w]
                      rfl
                    refine pure_ (i := 5) (N := some 54) (v := ?_) (a' := ?_) #[true, true, true, true, true, true, false, false, false, false, false, false, false, false, false, false, false, false, false, false, false, false, false, false, false, false, false, false] rfl rfl (any_of HT_.out (by kernel_rfl)) (fun _ _ _ h => h) (Or.inl ⟨by rfl, ?_⟩) ?_ ?_
                    rotate_left
                    · intro w'
                      go_simp
                      with_reducible rfl
                    rotate_left
                    · simp only [Act.put, List.setIfInBounds_toArray, List.set_cons_zero, List.set_cons_succ, i64_w, i32_w]
                      rfl
                    refine pure_ (i := 6) (N := some 55) (v := ?_) (a' := ?_) #[true, true, true, true, true, true, true, false, false, false, false, false, false, false, false, false, false, false, false, false, false, false, false, false, false, false, false, false] rfl rfl (any_of HT_.out (by kernel_rfl)) (fun _ _ _ h => h) (Or.inl ⟨by rfl, ?_⟩) ?_ ?_
                    rotate_left
                    · intro w'
                      go_simp
                      with_reducible rfl
                    rotate_left
                    · simp only [Act.put, List.setIfInBounds_toArray, List.set_cons_zero, List.set_cons_succ, i64_w, i32_w]
                      rfl
                    refine pure_ (i := 7) (N := some 56) (v := ?_) (a' := ?_) #[true, true, true, true, true, true, true, true, false, false, false, false, false, false, false, false, false, false, false, false, false, false, false, false, false, false, false, false] rfl rfl (any_of HT_.out (by kernel_rfl)) (fun _ _ _ h => h) (Or.inl ⟨by rfl, ?_⟩) ?_ ?_
                    rotate_left
                    · intro w'
                      go_simp
                      with_reducible rfl
                    rotate_left
                    · simp only [Act.put, List.setIfInBounds_toArray, List.set_cons_zero, List.set_cons_succ, i64_w, i32_w]
                      rfl
                    refine pure_ (i := 8) (N := some 57) (v := ?_) (a' := ?_) #[true, true, true, true, true, true, true, true, true, false, false, false, false, false, false, false, false, false, false, false, false, false, false, false, false, false, false, false] rfl rfl (any_of HT_.out (by kernel_rfl)) (fun _ _ _ h => h) (Or.inl ⟨by rfl, ?_⟩) ?_ ?_
                    rotate_left
                    · intro w'
                      go_simp
                      with_reducible rfl
                    rotate_left
                    · simp only [Act.put, List.setIfInBounds_toArray, List.set_cons_zero, List.set_cons_succ, i64_w, i32_w]
                      rfl
                    refine pure_ (i := 9) (N := some 58) (v := ?_) (a' := ?_) #[true, true, true, true, true, true, true, true, true, true, false, false, false, false, false, false, false, false, false, false, false, false, false, false, false, false, false, false] rfl rfl (any_of HT_.out (by kernel_rfl)) (fun _ _ _ h => h) (Or.inl ⟨by rfl, ?_⟩) ?_ ?_
                    rotate_left
                    · intro w'
                      go_simp
                      with_reducible rfl
                    rotate_left
                    · simp only [Act.put, List.setIfInBounds_toArray, List.set_cons_zero, List.set_cons_succ, i64_w, i32_w]
                      rfl
                    refine pure_ (i := 10) (N := some 59) (v := ?_) (a' := ?_) #[true, true, true, true, true, true, true, true, true, true, true, false, false, false, false, false, false, false, false, false, false, false, false, false, false, false, false, false] rfl rfl (any_of HT_.out (by kernel_rfl)) (fun _ _ _ h => h) (Or.inl ⟨by rfl, ?_⟩) ?_ ?_
                    rotate_left
                    · intro w'
                      go_simp
                      with_reducible rfl
                    rotate_left
                    · simp only [Act.put, List.setIfInBounds_toArray, List.set_cons_zero, List.set_cons_succ, i64_w, i32_w]
                      rfl
                    refine take_ (i := 11) (N := some 60) (v := ?_) (a' := ?_) #[true, true, true, true, true, true, true, true, true, true, true, true, false, false, false, false, false, false, false, false, false, false, false, false, false, false, false, false] rfl rfl (take_ofW HT_.out HW_.out (by kernel_rfl)) (fun _ _ _ h => h) (Or.inl ⟨by rfl, ?_⟩) hHeld ?_ ?_
                    rotate_left
                    · rintro w' ⟨s0, s1, s2, s3, s4, s5, s6, s7⟩
                      go_simp
                      with_reducible rfl
                    rotate_left
                    · simp only [Act.put, List.setIfInBounds_toArray, List.set_cons_zero, List.set_cons_succ, i64_w, i32_w]
                      rfl
                    refine take_ (i := 13) (N := some 62) (v := ?_) (a' := ?_) #[true, true, true, true, true, true, true, true, true, true, true, true, false, true, false, false, false, false, false, false, false, false, false, false, false, false, false, false] rfl rfl (take_ofW HT_.out HW_.out (by kernel_rfl)) (fun _ _ _ h => h) (Or.inl ⟨by rfl, ?_⟩) hHeld ?_ ?_
                    rotate_left
                    · rintro w' ⟨s0, s1, s2, s3, s4, s5, s6, s7⟩
                      go_simp
                      with_reducible rfl
                    rotate_left
                    · simp only [Act.put, List.setIfInBounds_toArray, List.set_cons_zero, List.set_cons_succ, i64_w, i32_w]
                      rfl
                    refine one_ (i := 12) (N := some 61) #[true, true, true, true, true, true, true, true, true, true, true, true, true, true, false, false, false, false, false, false, false, false, false, false, false, false, false, false] rfl rfl (one_of HT_.out (by kernel_rfl)) (by decide) (fun K hK => ?_)
                    refine goes_ Tryd.func34 (by kernel_rfl) rfl #[.agg #[.int .i64 t355, .int .i64 t356, .int .i64 t357, .int .i64 t358]] (by rfl) rfl rfl (by (try simp only [List.map_toArray, List.map_cons, List.map_nil]); first | done | rfl | (simp only [List.length_drop, List.length_take]; rfl)) ?_
                    with_reducible refine (afterglowlaw08_Old.calls t355 t356 t357 t358 t362 t363 t364 t365 _ A46.out).mono ?_
                    rintro e w70 ⟨rfl, hb⟩
                    refine ⟨_, rfl, ?_⟩
                    have n0_ := Aside0.mk (blk_below (g := gb331) (o := .cells #[.int .i64 a0_0, .int .i64 a0_1, .int .i64 a0_2, .int .i64 a0_3] 39 (0, 0)) (by (with_reducible repeat (first | refine blk_drewN ?_ _ | refine blk_drew ?_ | refine blk_alloc ?_ _)); exact BK331.out) hb)
                    have n1_ := Aside0.mk (blk_below (g := gb343) (o := .cells #[.int .i64 t338, .int .i64 t339, .int .i64 t340, .int .i64 t341] 44 (0, 0)) (by (with_reducible repeat (first | refine blk_drewN ?_ _ | refine blk_drew ?_ | refine blk_alloc ?_ _)); exact BK343.out) hb)
                    have n2_ := Aside0.mk (blk_below (g := gb349) (o := .cells #[.int .i64 t344, .int .i64 t345, .int .i64 t346, .int .i64 t347] 39 (0, 0)) (by (with_reducible repeat (first | refine blk_drewN ?_ _ | refine blk_drew ?_ | refine blk_alloc ?_ _)); exact BK349.out) hb)
                    have n3_ := Aside0.mk (blk_below (g := gb360) (o := .cells #[.int .i64 t355, .int .i64 t356, .int .i64 t357, .int .i64 t358] 44 (0, 0)) (by (with_reducible repeat (first | refine blk_drewN ?_ _ | refine blk_drew ?_ | refine blk_alloc ?_ _)); exact BK360.out) hb)
                    have n4_ := Aside0.mk (below_step (by repeat (first | (with_reducible first | exact HB.out | apply below_alloc | apply pw_below_drewN | apply below_drew1 | refine below_set ?_ GE331.out | refine below_set ?_ GE343.out | refine below_set ?_ GE349.out | refine below_set ?_ GE360.out) | exact HB.out)) hb)
                    clear BK331
                    clear BK343
                    clear BK349
                    clear BK360
                    clear HB
                    have BK331 := n0_
                    have BK343 := n1_
                    have BK349 := n2_
                    have BK360 := n3_
                    have HB := n4_
                    clear n0_ n1_ n2_ n3_ n4_
                    (try clear hb)
                    (try clear hb2)
                    (try clear hk)
                    (try clear hi)
                    refine hK.out _ _ ⟨(blk_cell BK360.out 0).trans rfl, (blk_cell BK360.out 1).trans rfl, (blk_cell BK360.out 2).trans rfl, (blk_cell BK360.out 3).trans rfl, (blk_cell BK331.out 0).trans rfl, (blk_cell BK331.out 1).trans rfl, (blk_cell BK331.out 2).trans rfl, (blk_cell BK331.out 3).trans rfl⟩ (fun hHeld => ?_)
                    clear hK K
                    refine norm_ (a' := ?_) ?_ ?_
                    rotate_left
                    · show Act.put _ (some 61) _ = _
                      simp only [Act.put, List.setIfInBounds_toArray, List.set_cons_zero, List.set_cons_succ, i64_w, i32_w]
                      rfl
                    refine pure_ (i := 14) (N := some 63) (v := ?_) (a' := ?_) #[true, true, true, true, true, true, true, true, true, true, true, true, true, true, true, false, false, false, false, false, false, false, false, false, false, false, false, false] rfl rfl (any_of HT_.out (by kernel_rfl)) (fun _ _ _ h => h) (Or.inl ⟨by rfl, ?_⟩) ?_ ?_
                    rotate_left
                    · intro w'
                      go_simp
                      with_reducible rfl
                    rotate_left
                    · simp only [Act.put, List.setIfInBounds_toArray, List.set_cons_zero, List.set_cons_succ, i64_w, i32_w]
                      rfl
                    refine pure_ (i := 15) (N := some 64) (v := ?_) (a' := ?_) #[true, true, true, true, true, true, true, true, true, true, true, true, true, true, true, true, false, false, false, false, false, false, false, false, false, false, false, false] rfl rfl (any_of HT_.out (by kernel_rfl)) (fun _ _ _ h => h) (Or.inl ⟨by rfl, ?_⟩) ?_ ?_
                    rotate_left
                    · intro w'
                      go_simp
                      with_reducible rfl
                    rotate_left
                    · simp only [Act.put, List.setIfInBounds_toArray, List.set_cons_zero, List.set_cons_succ, i64_w, i32_w]
                      rfl
                    refine pure_ (i := 16) (N := some 65) (v := ?_) (a' := ?_) #[true, true, true, true, true, true, true, true, true, true, true, true, true, true, true, true, true, false, false, false, false, false, false, false, false, false, false, false] rfl rfl (any_of HT_.out (by kernel_rfl)) (fun _ _ _ h => h) (Or.inl ⟨by rfl, ?_⟩) ?_ ?_
                    rotate_left
                    · intro w'
                      go_simp
                      with_reducible rfl
                    rotate_left
                    · simp only [Act.put, List.setIfInBounds_toArray, List.set_cons_zero, List.set_cons_succ, i64_w, i32_w]
                      rfl
                    refine pure_ (i := 17) (N := some 66) (v := ?_) (a' := ?_) #[true, true, true, true, true, true, true, true, true, true, true, true, true, true, true, true, true, true, false, false, false, false, false, false, false, false, false, false] rfl rfl (any_of HT_.out (by kernel_rfl)) (fun _ _ _ h => h) (Or.inl ⟨by rfl, ?_⟩) ?_ ?_
                    rotate_left
                    · intro w'
                      go_simp
                      with_reducible rfl
                    rotate_left
                    · simp only [Act.put, List.setIfInBounds_toArray, List.set_cons_zero, List.set_cons_succ, i64_w, i32_w]
                      rfl
                    refine pure_ (i := 18) (N := some 67) (v := ?_) (a' := ?_) #[true, true, true, true, true, true, true, true, true, true, true, true, true, true, true, true, true, true, true, false, false, false, false, false, false, false, false, false] rfl rfl (any_of HT_.out (by kernel_rfl)) (fun _ _ _ h => h) (Or.inl ⟨by rfl, ?_⟩) ?_ ?_
                    rotate_left
                    · intro w'
                      go_simp
                      with_reducible rfl
                    rotate_left
                    · simp only [Act.put, List.setIfInBounds_toArray, List.set_cons_zero, List.set_cons_succ, i64_w, i32_w]
                      rfl
                    refine pure_ (i := 19) (N := some 68) (v := ?_) (a' := ?_) #[true, true, true, true, true, true, true, true, true, true, true, true, true, true, true, true, true, true, true, true, false, false, false, false, false, false, false, false] rfl rfl (any_of HT_.out (by kernel_rfl)) (fun _ _ _ h => h) (Or.inl ⟨by rfl, ?_⟩) ?_ ?_
                    rotate_left
                    · intro w'
                      go_simp
                      with_reducible rfl
                    rotate_left
                    · simp only [Act.put, List.setIfInBounds_toArray, List.set_cons_zero, List.set_cons_succ, i64_w, i32_w]
                      rfl
                    refine pure_ (i := 20) (N := some 69) (v := ?_) (a' := ?_) #[true, true, true, true, true, true, true, true, true, true, true, true, true, true, true, true, true, true, true, true, true, false, false, false, false, false, false, false] rfl rfl (any_of HT_.out (by kernel_rfl)) (fun _ _ _ h => h) (Or.inl ⟨by rfl, ?_⟩) ?_ ?_
                    rotate_left
                    · intro w'
                      go_simp
                      with_reducible rfl
                    rotate_left
                    · simp only [Act.put, List.setIfInBounds_toArray, List.set_cons_zero, List.set_cons_succ, i64_w, i32_w]
                      rfl
                    refine pure_ (i := 21) (N := some 70) (v := undef) (a' := ?_) #[true, true, true, true, true, true, true, true, true, true, true, true, true, true, true, true, true, true, true, true, true, true, false, false, false, false, false, false] rfl rfl (any_of HT_.out (by kernel_rfl)) (fun _ _ _ h => h) (Or.inr ⟨by rfl, rfl⟩) ?_ ?_
                    rotate_left
                    · simp only [Act.put, List.setIfInBounds_toArray, List.set_cons_zero, List.set_cons_succ, i64_w, i32_w]
                      rfl
                    refine pure_ (i := 22) (N := some 71) (v := undef) (a' := ?_) #[true, true, true, true, true, true, true, true, true, true, true, true, true, true, true, true, true, true, true, true, true, true, true, false, false, false, false, false] rfl rfl (any_of HT_.out (by kernel_rfl)) (fun _ _ _ h => h) (Or.inr ⟨by rfl, rfl⟩) ?_ ?_
                    rotate_left
                    · simp only [Act.put, List.setIfInBounds_toArray, List.set_cons_zero, List.set_cons_succ, i64_w, i32_w]
                      rfl
                    refine pure_ (i := 23) (N := some 72) (v := undef) (a' := ?_) #[true, true, true, true, true, true, true, true, true, true, true, true, true, true, true, true, true, true, true, true, true, true, true, true, false, false, false, false] rfl rfl (any_of HT_.out (by kernel_rfl)) (fun _ _ _ h => h) (Or.inr ⟨by rfl, rfl⟩) ?_ ?_
                    rotate_left
                    · simp only [Act.put, List.setIfInBounds_toArray, List.set_cons_zero, List.set_cons_succ, i64_w, i32_w]
                      rfl
                    refine pure_ (i := 24) (N := some 73) (v := undef) (a' := ?_) #[true, true, true, true, true, true, true, true, true, true, true, true, true, true, true, true, true, true, true, true, true, true, true, true, true, false, false, false] rfl rfl (any_of HT_.out (by kernel_rfl)) (fun _ _ _ h => h) (Or.inr ⟨by rfl, rfl⟩) ?_ ?_
                    rotate_left
                    · simp only [Act.put, List.setIfInBounds_toArray, List.set_cons_zero, List.set_cons_succ, i64_w, i32_w]
                      rfl
                    refine pure_ (i := 25) (N := some 74) (v := ?_) (a' := ?_) #[true, true, true, true, true, true, true, true, true, true, true, true, true, true, true, true, true, true, true, true, true, true, true, true, true, true, false, false] rfl rfl (any_of HT_.out (by kernel_rfl)) (fun _ _ _ h => h) (Or.inl ⟨by rfl, ?_⟩) ?_ ?_
                    rotate_left
                    · intro w'
                      go_simp
                      with_reducible rfl
                    rotate_left
                    · simp only [Act.put, List.setIfInBounds_toArray, List.set_cons_zero, List.set_cons_succ, i64_w, i32_w]
                      rfl
                    refine pure_ (i := 26) (N := some 75) (v := ?_) (a' := ?_) #[true, true, true, true, true, true, true, true, true, true, true, true, true, true, true, true, true, true, true, true, true, true, true, true, true, true, true, false] rfl rfl (any_of HT_.out (by kernel_rfl)) (fun _ _ _ h => h) (Or.inl ⟨by rfl, ?_⟩) ?_ ?_
                    rotate_left
                    · intro w'
                      go_simp
                      with_reducible rfl
                    rotate_left
                    · simp only [Act.put, List.setIfInBounds_toArray, List.set_cons_zero, List.set_cons_succ, i64_w, i32_w]
                      rfl
                    refine pure_ (i := 27) (N := some 4) (v := ?_) (a' := ?_) #[true, true, true, true, true, true, true, true, true, true, true, true, true, true, true, true, true, true, true, true, true, true, true, true, true, true, true, true] rfl rfl (any_of HT_.out (by kernel_rfl)) (fun _ _ _ h => h) (Or.inl ⟨by rfl, ?_⟩) ?_ ?_
                    rotate_left
                    · intro w'
                      go_simp
                      with_reducible rfl
                    rotate_left
                    · simp only [Act.put, List.setIfInBounds_toArray, List.set_cons_zero, List.set_cons_succ, i64_w, i32_w]
                      rfl
                    refine done_ (done_of HT_.out (by kernel_rfl)) ?_
                    try go_wp2
                    go_ret
                    exact ⟨by first | rfl | (simp [errW_none, errW_some] <;> rfl) | (simp [*, errW_none, errW_some] <;> rfl), by repeat (first | (with_reducible first | exact HB.out | apply below_alloc | apply pw_below_drewN | apply below_drew1 | refine below_set ?_ GE331.out | refine below_set ?_ GE343.out | refine below_set ?_ GE349.out | refine below_set ?_ GE360.out) | exact HB.out)⟩
                · rw [if_neg c47] at H
                  exact absurd H (by simp)
              · replace c45 := Bool.eq_false_iff.mpr c45
                subst c45
                have H1 : (if t342 = true then ((page_Key.f t338 t339 t340 t341).bind fun t367 => (some (t367.toList == a1.toList))) else (some true)) = some r := by rw [if_neg (show ¬ (false = true) by decide)] at H; exact H
                clear H
                have H := H1
                clear H1
                by_cases c71 : t342 = true
                · subst c71
                  have H1 : ((page_Key.f t338 t339 t340 t341).bind fun t367 => (some (t367.toList == a1.toList))) = some r := by rw [if_pos rfl] at H; exact H
                  clear H
                  have H := H1
                  clear H1
                  replace H := Option.bind_eq_some_iff.mp H
                  obtain ⟨t367, A720, H⟩ := H
                  replace H : (some (t367.toList == a1.toList)) = some r := H
                  have A72 := Aside0.mk A720
                  clear A720
                  obtain rfl := Option.some.inj H
                  try go_wp2_with (first | ((with_reducible refine gate_callee (f := 31) rfl ?_); refine goesL_ (some 46) rfl rfl Tryd.func31 (by kernel_rfl) rfl #[.string t337] rfl (by (try simp only [List.map_toArray, List.map_cons, List.map_nil]); first | done | rfl | (simp only [List.length_drop, List.length_take]; rfl)) ?_; (with_reducible refine (page_Parse.calls t337 t355 t356 t357 t358 false _ ?side1 A41.out).mono ?_); (case side1 => exact ⟨Good.below hG.out (by repeat (first | (with_reducible first | exact HB.out | apply below_alloc | apply pw_below_drewN | apply below_drew1 | refine below_set ?_ GE331.out | refine below_set ?_ GE343.out | refine below_set ?_ GE349.out) | exact HB.out))⟩); rintro e w73 ⟨rfl, hb⟩; refine ⟨_, rfl, ?_⟩; have n0_ := Aside0.mk (blk_below (g := gb331) (o := .cells #[.int .i64 a0_0, .int .i64 a0_1, .int .i64 a0_2, .int .i64 a0_3] 39 (0, 0)) (by (with_reducible repeat (first | refine blk_drewN ?_ _ | refine blk_drew ?_ | refine blk_alloc ?_ _)); exact BK331.out) hb); have n1_ := Aside0.mk (blk_below (g := gb343) (o := .cells #[.int .i64 t338, .int .i64 t339, .int .i64 t340, .int .i64 t341] 44 (0, 0)) (by (with_reducible repeat (first | refine blk_drewN ?_ _ | refine blk_drew ?_ | refine blk_alloc ?_ _)); exact BK343.out) hb); have n2_ := Aside0.mk (blk_below (g := gb349) (o := .cells #[.int .i64 t344, .int .i64 t345, .int .i64 t346, .int .i64 t347] 39 (0, 0)) (by (with_reducible repeat (first | refine blk_drewN ?_ _ | refine blk_drew ?_ | refine blk_alloc ?_ _)); exact BK349.out) hb); have n3_ := Aside0.mk (below_step (by repeat (first | (with_reducible first | exact HB.out | apply below_alloc | apply pw_below_drewN | apply below_drew1 | refine below_set ?_ GE331.out | refine below_set ?_ GE343.out | refine below_set ?_ GE349.out) | exact HB.out)) hb); clear BK331; clear BK343; clear BK349; clear HB; have BK331 := n0_; have BK343 := n1_; have BK349 := n2_; have HB := n3_; clear n0_ n1_ n2_ n3_; (try clear hb); (try clear hb2); (try clear hk); (try clear hi)) | ((with_reducible refine gate_dst (N := 10) rfl ?_); refine box_event ?hg (N := 10) ?hd (cs := #[.int .i64 0, .int .i64 0, .int .i64 0, .int .i64 0]) (t := 44) ?hr ?_; (case hd => rfl); (case hg => rfl); (case hr => first | (go_simp; done) | (go_simp; rfl)); intro gb360 hg w74 hbox hb; have n0_ := Aside0.mk (blk_below (g := gb331) (o := .cells #[.int .i64 a0_0, .int .i64 a0_1, .int .i64 a0_2, .int .i64 a0_3] 39 (0, 0)) (by (with_reducible repeat (first | refine blk_drewN ?_ _ | refine blk_drew ?_ | refine blk_alloc ?_ _)); exact BK331.out) hb); have n1_ := Aside0.mk (blk_below (g := gb343) (o := .cells #[.int .i64 t338, .int .i64 t339, .int .i64 t340, .int .i64 t341] 44 (0, 0)) (by (with_reducible repeat (first | refine blk_drewN ?_ _ | refine blk_drew ?_ | refine blk_alloc ?_ _)); exact BK343.out) hb); have n2_ := Aside0.mk (blk_below (g := gb349) (o := .cells #[.int .i64 t344, .int .i64 t345, .int .i64 t346, .int .i64 t347] 39 (0, 0)) (by (with_reducible repeat (first | refine blk_drewN ?_ _ | refine blk_drew ?_ | refine blk_alloc ?_ _)); exact BK349.out) hb); have n3_ := Aside0.mk (below_step (by repeat (first | (with_reducible first | exact HB.out | apply below_alloc | apply pw_below_drewN | apply below_drew1 | refine below_set ?_ GE331.out | refine below_set ?_ GE343.out | refine below_set ?_ GE349.out) | exact HB.out)) hb); have n4_ := Aside0.mk (hbox); have n5_ := Aside0.mk ((by rw [hg]; exact (below_size (by repeat (first | (with_reducible first | exact HB.out | apply below_alloc | apply pw_below_drewN | apply below_drew1 | refine below_set ?_ GE331.out | refine below_set ?_ GE343.out | refine below_set ?_ GE349.out) | exact HB.out))) : w.heap.size ≤ gb360)); have n6_ := Aside0.mk ((by rw [hg]; exact (below_size (by repeat (first | (with_reducible first | exact HB.out | apply below_alloc | apply pw_below_drewN | apply below_drew1 | refine below_set ?_ GE331.out | refine below_set ?_ GE343.out | refine below_set ?_ GE349.out) | exact HB.out))) : w.heap.size ≤ gb360)); have n7_ := Aside0.mk ((by rw [hg]; exact Nat.ne_of_lt (blk_lt (g := gb331) (o := .cells #[.int .i64 a0_0, .int .i64 a0_1, .int .i64 a0_2, .int .i64 a0_3] 39 (0, 0)) (by (with_reducible repeat (first | refine blk_drewN ?_ _ | refine blk_drew ?_ | refine blk_alloc ?_ _)); exact BK331.out)) : gb331 ≠ gb360)); have n8_ := Aside0.mk ((by rw [hg]; exact Nat.ne_of_gt (blk_lt (g := gb331) (o := .cells #[.int .i64 a0_0, .int .i64 a0_1, .int .i64 a0_2, .int .i64 a0_3] 39 (0, 0)) (by (with_reducible repeat (first | refine blk_drewN ?_ _ | refine blk_drew ?_ | refine blk_alloc ?_ _)); exact BK331.out)) : gb360 ≠ gb331)); have n9_ := Aside0.mk ((by rw [hg]; exact Nat.ne_of_lt (blk_lt (g := gb343) (o := .cells #[.int .i64 t338, .int .i64 t339, .int .i64 t340, .int .i64 t341] 44 (0, 0)) (by (with_reducible repeat (first | refine blk_drewN ?_ _ | refine blk_drew ?_ | refine blk_alloc ?_ _)); exact BK343.out)) : gb343 ≠ gb360)); have n10_ := Aside0.mk ((by rw [hg]; exact Nat.ne_of_gt (blk_lt (g := gb343) (o := .cells #[.int .i64 t338, .int .i64 t339, .int .i64 t340, .int .i64 t341] 44 (0, 0)) (by (with_reducible repeat (first | refine blk_drewN ?_ _ | refine blk_drew ?_ | refine blk_alloc ?_ _)); exact BK343.out)) : gb360 ≠ gb343)); have n11_ := Aside0.mk ((by rw [hg]; exact Nat.ne_of_lt (blk_lt (g := gb349) (o := .cells #[.int .i64 t344, .int .i64 t345, .int .i64 t346, .int .i64 t347] 39 (0, 0)) (by (with_reducible repeat (first | refine blk_drewN ?_ _ | refine blk_drew ?_ | refine blk_alloc ?_ _)); exact BK349.out)) : gb349 ≠ gb360)); have n12_ := Aside0.mk ((by rw [hg]; exact Nat.ne_of_gt (blk_lt (g := gb349) (o := .cells #[.int .i64 t344, .int .i64 t345, .int .i64 t346, .int .i64 t347] 39 (0, 0)) (by (with_reducible repeat (first | refine blk_drewN ?_ _ | refine blk_drew ?_ | refine blk_alloc ?_ _)); exact BK349.out)) : gb360 ≠ gb349)); clear BK331; clear BK343; clear BK349; clear HB; have BK331 := n0_; have BK343 := n1_; have BK349 := n2_; have HB := n3_; have BK360 := n4_; have GW360 := n5_; have GE360 := n6_; have NB331_360 := n7_; have NB360_331 := n8_; have NB343_360 := n9_; have NB360_343 := n10_; have NB349_360 := n11_; have NB360_349 := n12_; clear n0_ n1_ n2_ n3_ n4_ n5_ n6_ n7_ n8_ n9_ n10_ n11_ n12_; clear hb hbox hg; have hnb75 := NB360_331.out; have hnc75 := NB331_360.out; have hnb76 := NB360_343.out; have hnc76 := NB343_360.out; have hnb77 := NB360_349.out; have hnc77 := NB349_360.out; have hcz78_0 : w74.cell? ⟨gb360, 0, none⟩ = some (.int .i64 0) := (blk_cell BK360.out 0).trans rfl; have hcz78_1 : w74.cell? ⟨gb360, 1, none⟩ = some (.int .i64 0) := (blk_cell BK360.out 1).trans rfl; have hcz78_2 : w74.cell? ⟨gb360, 2, none⟩ = some (.int .i64 0) := (blk_cell BK360.out 2).trans rfl; have hcz78_3 : w74.cell? ⟨gb360, 3, none⟩ = some (.int .i64 0) := (blk_cell BK360.out 3).trans rfl; have hfz78_0 := blk_frozen BK360.out 0; have hfz78_1 := blk_frozen BK360.out 1; have hfz78_2 := blk_frozen BK360.out 2; have hfz78_3 := blk_frozen BK360.out 3))
                  have n0_ : Aside0 (((((w74.setCell ⟨gb360, 0, none⟩ (.int .i64 t355)).setCell ⟨gb360, 1, none⟩ (.int .i64 t356)).setCell ⟨gb360, 2, none⟩ (.int .i64 t357)).setCell ⟨gb360, 3, none⟩ (.int .i64 t358)).heap[gb331]? = some (.cells #[.int .i64 a0_0, .int .i64 a0_1, .int .i64 a0_2, .int .i64 a0_3] 39 (0, 0))) := ⟨by (with_reducible repeat (first | refine blk_drewN ?_ _ | refine blk_drew ?_ | refine blk_alloc ?_ _)); refine blk_far ?_ NB331_360.out _; (with_reducible repeat (first | refine blk_drewN ?_ _ | refine blk_drew ?_ | refine blk_alloc ?_ _)); refine blk_far ?_ NB331_360.out _; (with_reducible repeat (first | refine blk_drewN ?_ _ | refine blk_drew ?_ | refine blk_alloc ?_ _)); refine blk_far ?_ NB331_360.out _; (with_reducible repeat (first | refine blk_drewN ?_ _ | refine blk_drew ?_ | refine blk_alloc ?_ _)); refine blk_far ?_ NB331_360.out _; (with_reducible repeat (first | refine blk_drewN ?_ _ | refine blk_drew ?_ | refine blk_alloc ?_ _)); exact BK331.out⟩
                  have n1_ : Aside0 (((((w74.setCell ⟨gb360, 0, none⟩ (.int .i64 t355)).setCell ⟨gb360, 1, none⟩ (.int .i64 t356)).setCell ⟨gb360, 2, none⟩ (.int .i64 t357)).setCell ⟨gb360, 3, none⟩ (.int .i64 t358)).heap[gb343]? = some (.cells #[.int .i64 t338, .int .i64 t339, .int .i64 t340, .int .i64 t341] 44 (0, 0))) := ⟨by (with_reducible repeat (first | refine blk_drewN ?_ _ | refine blk_drew ?_ | refine blk_alloc ?_ _)); refine blk_far ?_ NB343_360.out _; (with_reducible repeat (first | refine blk_drewN ?_ _ | refine blk_drew ?_ | refine blk_alloc ?_ _)); refine blk_far ?_ NB343_360.out _; (with_reducible repeat (first | refine blk_drewN ?_ _ | refine blk_drew ?_ | refine blk_alloc ?_ _)); refine blk_far ?_ NB343_360.out _; (with_reducible repeat (first | refine blk_drewN ?_ _ | refine blk_drew ?_ | refine blk_alloc ?_ _)); refine blk_far ?_ NB343_360.out _; (with_reducible repeat (first | refine blk_drewN ?_ _ | refine blk_drew ?_ | refine blk_alloc ?_ _)); exact BK343.out⟩
                  have n2_ : Aside0 (((((w74.setCell ⟨gb360, 0, none⟩ (.int .i64 t355)).setCell ⟨gb360, 1, none⟩ (.int .i64 t356)).setCell ⟨gb360, 2, none⟩ (.int .i64 t357)).setCell ⟨gb360, 3, none⟩ (.int .i64 t358)).heap[gb349]? = some (.cells #[.int .i64 t344, .int .i64 t345, .int .i64 t346, .int .i64 t347] 39 (0, 0))) := ⟨by (with_reducible repeat (first | refine blk_drewN ?_ _ | refine blk_drew ?_ | refine blk_alloc ?_ _)); refine blk_far ?_ NB349_360.out _; (with_reducible repeat (first | refine blk_drewN ?_ _ | refine blk_drew ?_ | refine blk_alloc ?_ _)); refine blk_far ?_ NB349_360.out _; (with_reducible repeat (first | refine blk_drewN ?_ _ | refine blk_drew ?_ | refine blk_alloc ?_ _)); refine blk_far ?_ NB349_360.out _; (with_reducible repeat (first | refine blk_drewN ?_ _ | refine blk_drew ?_ | refine blk_alloc ?_ _)); refine blk_far ?_ NB349_360.out _; (with_reducible repeat (first | refine blk_drewN ?_ _ | refine blk_drew ?_ | refine blk_alloc ?_ _)); exact BK349.out⟩
                  have n3_ : Aside0 (((((w74.setCell ⟨gb360, 0, none⟩ (.int .i64 t355)).setCell ⟨gb360, 1, none⟩ (.int .i64 t356)).setCell ⟨gb360, 2, none⟩ (.int .i64 t357)).setCell ⟨gb360, 3, none⟩ (.int .i64 t358)).heap[gb360]? = some (.cells #[.int .i64 t355, .int .i64 t356, .int .i64 t357, .int .i64 t358] 44 (0, 0))) := ⟨by (with_reducible repeat (first | refine blk_drewN ?_ _ | refine blk_drew ?_ | refine blk_alloc ?_ _)); refine blk_put (cs := #[.int .i64 t355, .int .i64 t356, .int .i64 t357, .int .i64 0]) ?_ 3 _ rfl; (with_reducible repeat (first | refine blk_drewN ?_ _ | refine blk_drew ?_ | refine blk_alloc ?_ _)); refine blk_put (cs := #[.int .i64 t355, .int .i64 t356, .int .i64 0, .int .i64 0]) ?_ 2 _ rfl; (with_reducible repeat (first | refine blk_drewN ?_ _ | refine blk_drew ?_ | refine blk_alloc ?_ _)); refine blk_put (cs := #[.int .i64 t355, .int .i64 0, .int .i64 0, .int .i64 0]) ?_ 1 _ rfl; (with_reducible repeat (first | refine blk_drewN ?_ _ | refine blk_drew ?_ | refine blk_alloc ?_ _)); refine blk_put (cs := #[.int .i64 0, .int .i64 0, .int .i64 0, .int .i64 0]) ?_ 0 _ rfl; (with_reducible repeat (first | refine blk_drewN ?_ _ | refine blk_drew ?_ | refine blk_alloc ?_ _)); exact BK360.out⟩
                  have n4_ : Aside0 (Below w.heap.size w ((((w74.setCell ⟨gb360, 0, none⟩ (.int .i64 t355)).setCell ⟨gb360, 1, none⟩ (.int .i64 t356)).setCell ⟨gb360, 2, none⟩ (.int .i64 t357)).setCell ⟨gb360, 3, none⟩ (.int .i64 t358))) := ⟨by repeat (first | (with_reducible first | exact HB.out | apply below_alloc | apply pw_below_drewN | apply below_drew1 | refine below_set ?_ GE331.out | refine below_set ?_ GE343.out | refine below_set ?_ GE349.out | refine below_set ?_ GE360.out) | exact HB.out)⟩
                  (try clear BK331)
                  (try clear BK343)
                  (try clear BK349)
                  (try clear BK360)
                  (try clear HB)
                  generalize ((((w74.setCell ⟨gb360, 0, none⟩ (.int .i64 t355)).setCell ⟨gb360, 1, none⟩ (.int .i64 t356)).setCell ⟨gb360, 2, none⟩ (.int .i64 t357)).setCell ⟨gb360, 3, none⟩ (.int .i64 t358)) = w79 at n0_ n1_ n2_ n3_ n4_ ⊢
                  have BK331 := n0_
                  have BK343 := n1_
                  have BK349 := n2_
                  have BK360 := n3_
                  have HB := n4_
                  clear n0_ n1_ n2_ n3_ n4_
                  have n0_ := Aside0.mk (blk_drew BK331.out)
                  have n1_ := Aside0.mk (blk_drew BK343.out)
                  have n2_ := Aside0.mk (blk_drew BK349.out)
                  have n3_ := Aside0.mk (blk_drew BK360.out)
                  have n4_ := Aside0.mk (below_drew1 HB.out)
                  clear BK331
                  clear BK343
                  clear BK349
                  clear BK360
                  clear HB
                  have BK331 := n0_
                  have BK343 := n1_
                  have BK349 := n2_
                  have BK360 := n3_
                  have HB := n4_
                  clear n0_ n1_ n2_ n3_ n4_
                  refine start_ (n := 28) (S := fun w' => w'.cell? ⟨gb343, 0, none⟩ = some (.int .i64 t338) ∧ w'.cell? ⟨gb343, 1, none⟩ = some (.int .i64 t339) ∧ w'.cell? ⟨gb343, 2, none⟩ = some (.int .i64 t340) ∧ w'.cell? ⟨gb343, 3, none⟩ = some (.int .i64 t341)) (ds := []) #[false, false, false, false, false, false, false, false, false, false, false, false, false, false, false, false, false, false, false, false, false, false, false, false, false, false, false, false] (by kernel_rfl) rfl rfl ⟨(blk_cell BK343.out 0).trans rfl, (blk_cell BK343.out 1).trans rfl, (blk_cell BK343.out 2).trans rfl, (blk_cell BK343.out 3).trans rfl⟩ (fun hHeld => ?_); refine with_tabW afterglowlaw14_PageKeys.tab9 afterglowlaw14_PageKeys.bits9 (fun HT_ HW_ => ?_)
                  generalize w79.drew = w80 at BK331 BK343 BK349 BK360 HB hHeld ⊢
                  refine one_ (i := 0) (N := some 49) #[true, false, false, false, false, false, false, false, false, false, false, false, false, false, false, false, false, false, false, false, false, false, false, false, false, false, false, false] rfl rfl (one_of HT_.out (by kernel_rfl)) (by decide) (fun K hK => ?_)
                  refine goes_ Tryd.func28 (by kernel_rfl) rfl #[] (by rfl) rfl rfl (by (try simp only [List.map_toArray, List.map_cons, List.map_nil]); first | done | rfl | (simp only [List.length_drop, List.length_take]; rfl)) ?_
                  with_reducible refine (afterglowlaw14_alive.calls kj10  true _ ?side1 A42.out).mono ?_
                  (case side1 => exact ⟨Good.below hG.out (by repeat (first | (with_reducible first | exact HB.out | apply below_alloc | apply pw_below_drewN | apply below_drew1 | refine below_set ?_ GE331.out | refine below_set ?_ GE343.out | refine below_set ?_ GE349.out | refine below_set ?_ GE360.out) | exact HB.out))⟩)
                  rintro e w81 ⟨rfl, hb⟩
                  refine ⟨_, rfl, ?_⟩
                  have n0_ := Aside0.mk (blk_below (g := gb331) (o := .cells #[.int .i64 a0_0, .int .i64 a0_1, .int .i64 a0_2, .int .i64 a0_3] 39 (0, 0)) (by (with_reducible repeat (first | refine blk_drewN ?_ _ | refine blk_drew ?_ | refine blk_alloc ?_ _)); exact BK331.out) hb)
                  have n1_ := Aside0.mk (blk_below (g := gb343) (o := .cells #[.int .i64 t338, .int .i64 t339, .int .i64 t340, .int .i64 t341] 44 (0, 0)) (by (with_reducible repeat (first | refine blk_drewN ?_ _ | refine blk_drew ?_ | refine blk_alloc ?_ _)); exact BK343.out) hb)
                  have n2_ := Aside0.mk (blk_below (g := gb349) (o := .cells #[.int .i64 t344, .int .i64 t345, .int .i64 t346, .int .i64 t347] 39 (0, 0)) (by (with_reducible repeat (first | refine blk_drewN ?_ _ | refine blk_drew ?_ | refine blk_alloc ?_ _)); exact BK349.out) hb)
                  have n3_ := Aside0.mk (blk_below (g := gb360) (o := .cells #[.int .i64 t355, .int .i64 t356, .int .i64 t357, .int .i64 t358] 44 (0, 0)) (by (with_reducible repeat (first | refine blk_drewN ?_ _ | refine blk_drew ?_ | refine blk_alloc ?_ _)); exact BK360.out) hb)
                  have n4_ := Aside0.mk (below_step (by repeat (first | (with_reducible first | exact HB.out | apply below_alloc | apply pw_below_drewN | apply below_drew1 | refine below_set ?_ GE331.out | refine below_set ?_ GE343.out | refine below_set ?_ GE349.out | refine below_set ?_ GE360.out) | exact HB.out)) hb)
                  clear BK331
                  clear BK343
                  clear BK349
                  clear BK360
                  clear HB
                  have BK331 := n0_
                  have BK343 := n1_
                  have BK349 := n2_
                  have BK360 := n3_
                  have HB := n4_
                  clear n0_ n1_ n2_ n3_ n4_
                  (try clear hb)
                  (try clear hb2)
                  (try clear hk)
                  (try clear hi)
                  refine hK.out _ _ ⟨(blk_cell BK343.out 0).trans rfl, (blk_cell BK343.out 1).trans rfl, (blk_cell BK343.out 2).trans rfl, (blk_cell BK343.out 3).trans rfl⟩ (fun hHeld => ?_)
                  clear hK K
                  refine norm_ (a' := ?_) ?_ ?_
                  rotate_left
                  · show Act.put _ (some 49) _ = _
                    simp only [Act.put, List.setIfInBounds_toArray, List.set_cons_zero, List.set_cons_succ, i64_w, i32_w]
                    rfl
                  refine pure_ (i := 1) (N := some 50) (v := ?_) (a' := ?_) #[true, true, false, false, false, false, false, false, false, false, false, false, false, false, false, false, false, false, false, false, false, false, false, false, false, false, false, false] rfl rfl (any_of HT_.out (by kernel_rfl)) (fun _ _ _ h => h) (Or.inl ⟨by rfl, ?_⟩) ?_ ?_
                  rotate_left
                  · intro w'
                    go_simp
                    with_reducible rfl
                  rotate_left
                  · simp only [Act.put, List.setIfInBounds_toArray, List.set_cons_zero, List.set_cons_succ, i64_w, i32_w]
                    rfl
                  refine pure_ (i := 2) (N := some 51) (v := ?_) (a' := ?_) #[true, true, true, false, false, false, false, false, false, false, false, false, false, false, false, false, false, false, false, false, false, false, false, false, false, false, false, false] rfl rfl (any_of HT_.out (by kernel_rfl)) (fun _ _ _ h => h) (Or.inl ⟨by rfl, ?_⟩) ?_ ?_
                  rotate_left
                  · intro w'
                    go_simp
                    with_reducible rfl
                  rotate_left
                  · simp only [Act.put, List.setIfInBounds_toArray, List.set_cons_zero, List.set_cons_succ, i64_w, i32_w]
                    rfl
                  refine pure_ (i := 3) (N := some 52) (v := ?_) (a' := ?_) #[true, true, true, true, false, false, false, false, false, false, false, false, false, false, false, false, false, false, false, false, false, false, false, false, false, false, false, false] rfl rfl (any_of HT_.out (by kernel_rfl)) (fun _ _ _ h => h) (Or.inl ⟨by rfl, ?_⟩) ?_ ?_
                  rotate_left
                  · intro w'
                    go_simp
                    with_reducible rfl
                  rotate_left
                  · simp only [Act.put, List.setIfInBounds_toArray, List.set_cons_zero, List.set_cons_succ, i64_w, i32_w]
                    rfl
                  refine pure_ (i := 4) (N := some 53) (v := ?_) (a' := ?_) #[true, true, true, true, true, false, false, false, false, false, false, false, false, false, false, false, false, false, false, false, false, false, false, false, false, false, false, false] rfl rfl (any_of HT_.out (by kernel_rfl)) (fun _ _ _ h => h) (Or.inl ⟨by rfl, ?_⟩) ?_ ?_
                  rotate_left
                  · intro w'
                    go_simp
                    with_reducible rfl
                  rotate_left
                  · simp only [Act.put, List.setIfInBounds_toArray, List.set_cons_zero, List.set_cons_succ, i64_w, i32_w]
                    rfl
                  refine pure_ (i := 5) (N := some 54) (v := ?_) (a' := ?_) #[true, true, true, true, true, true, false, false, false, false, false, false, false, false, false, false, false, false, false, false, false, false, false, false, false, false, false, false] rfl rfl (any_of HT_.out (by kernel_rfl)) (fun _ _ _ h => h) (Or.inl ⟨by rfl, ?_⟩) ?_ ?_
                  rotate_left
                  · intro w'
                    go_simp
                    with_reducible rfl
                  rotate_left
                  · simp only [Act.put, List.setIfInBounds_toArray, List.set_cons_zero, List.set_cons_succ, i64_w, i32_w]
                    rfl
                  refine pure_ (i := 6) (N := some 55) (v := ?_) (a' := ?_) #[true, true, true, true, true, true, true, false, false, false, false, false, false, false, false, false, false, false, false, false, false, false, false, false, false, false, false, false] rfl rfl (any_of HT_.out (by kernel_rfl)) (fun _ _ _ h => h) (Or.inl ⟨by rfl, ?_⟩) ?_ ?_
                  rotate_left
                  · intro w'
                    go_simp
                    with_reducible rfl
                  rotate_left
                  · simp only [Act.put, List.setIfInBounds_toArray, List.set_cons_zero, List.set_cons_succ, i64_w, i32_w]
                    rfl
                  refine pure_ (i := 7) (N := some 56) (v := ?_) (a' := ?_) #[true, true, true, true, true, true, true, true, false, false, false, false, false, false, false, false, false, false, false, false, false, false, false, false, false, false, false, false] rfl rfl (any_of HT_.out (by kernel_rfl)) (fun _ _ _ h => h) (Or.inl ⟨by rfl, ?_⟩) ?_ ?_
                  rotate_left
                  · intro w'
                    go_simp
                    with_reducible rfl
                  rotate_left
                  · simp only [Act.put, List.setIfInBounds_toArray, List.set_cons_zero, List.set_cons_succ, i64_w, i32_w]
                    rfl
                  refine pure_ (i := 8) (N := some 57) (v := ?_) (a' := ?_) #[true, true, true, true, true, true, true, true, true, false, false, false, false, false, false, false, false, false, false, false, false, false, false, false, false, false, false, false] rfl rfl (any_of HT_.out (by kernel_rfl)) (fun _ _ _ h => h) (Or.inl ⟨by rfl, ?_⟩) ?_ ?_
                  rotate_left
                  · intro w'
                    go_simp
                    with_reducible rfl
                  rotate_left
                  · simp only [Act.put, List.setIfInBounds_toArray, List.set_cons_zero, List.set_cons_succ, i64_w, i32_w]
                    rfl
                  refine pure_ (i := 9) (N := some 58) (v := ?_) (a' := ?_) #[true, true, true, true, true, true, true, true, true, true, false, false, false, false, false, false, false, false, false, false, false, false, false, false, false, false, false, false] rfl rfl (any_of HT_.out (by kernel_rfl)) (fun _ _ _ h => h) (Or.inl ⟨by rfl, ?_⟩) ?_ ?_
                  rotate_left
                  · intro w'
                    go_simp
                    with_reducible rfl
                  rotate_left
                  · simp only [Act.put, List.setIfInBounds_toArray, List.set_cons_zero, List.set_cons_succ, i64_w, i32_w]
                    rfl
                  refine pure_ (i := 10) (N := some 59) (v := ?_) (a' := ?_) #[true, true, true, true, true, true, true, true, true, true, true, false, false, false, false, false, false, false, false, false, false, false, false, false, false, false, false, false] rfl rfl (any_of HT_.out (by kernel_rfl)) (fun _ _ _ h => h) (Or.inl ⟨by rfl, ?_⟩) ?_ ?_
                  rotate_left
                  · intro w'
                    go_simp
                    with_reducible rfl
                  rotate_left
                  · simp only [Act.put, List.setIfInBounds_toArray, List.set_cons_zero, List.set_cons_succ, i64_w, i32_w]
                    rfl
                  refine pure_ (i := 11) (N := some 60) (v := undef) (a' := ?_) #[true, true, true, true, true, true, true, true, true, true, true, true, false, false, false, false, false, false, false, false, false, false, false, false, false, false, false, false] rfl rfl (any_of HT_.out (by kernel_rfl)) (fun _ _ _ h => h) (Or.inr ⟨by rfl, rfl⟩) ?_ ?_
                  rotate_left
                  · simp only [Act.put, List.setIfInBounds_toArray, List.set_cons_zero, List.set_cons_succ, i64_w, i32_w]
                    rfl
                  refine pure_ (i := 12) (N := some 61) (v := undef) (a' := ?_) #[true, true, true, true, true, true, true, true, true, true, true, true, true, false, false, false, false, false, false, false, false, false, false, false, false, false, false, false] rfl rfl (any_of HT_.out (by kernel_rfl)) (fun _ _ _ h => h) (Or.inr ⟨by rfl, rfl⟩) ?_ ?_
                  rotate_left
                  · simp only [Act.put, List.setIfInBounds_toArray, List.set_cons_zero, List.set_cons_succ, i64_w, i32_w]
                    rfl
                  refine pure_ (i := 13) (N := some 62) (v := undef) (a' := ?_) #[true, true, true, true, true, true, true, true, true, true, true, true, true, true, false, false, false, false, false, false, false, false, false, false, false, false, false, false] rfl rfl (any_of HT_.out (by kernel_rfl)) (fun _ _ _ h => h) (Or.inr ⟨by rfl, rfl⟩) ?_ ?_
                  rotate_left
                  · simp only [Act.put, List.setIfInBounds_toArray, List.set_cons_zero, List.set_cons_succ, i64_w, i32_w]
                    rfl
                  refine pure_ (i := 14) (N := some 63) (v := undef) (a' := ?_) #[true, true, true, true, true, true, true, true, true, true, true, true, true, true, true, false, false, false, false, false, false, false, false, false, false, false, false, false] rfl rfl (any_of HT_.out (by kernel_rfl)) (fun _ _ _ h => h) (Or.inr ⟨by rfl, rfl⟩) ?_ ?_
                  rotate_left
                  · simp only [Act.put, List.setIfInBounds_toArray, List.set_cons_zero, List.set_cons_succ, i64_w, i32_w]
                    rfl
                  refine pure_ (i := 15) (N := some 64) (v := ?_) (a' := ?_) #[true, true, true, true, true, true, true, true, true, true, true, true, true, true, true, true, false, false, false, false, false, false, false, false, false, false, false, false] rfl rfl (any_of HT_.out (by kernel_rfl)) (fun _ _ _ h => h) (Or.inl ⟨by rfl, ?_⟩) ?_ ?_
                  rotate_left
                  · intro w'
                    go_simp
                    with_reducible rfl
                  rotate_left
                  · simp only [Act.put, List.setIfInBounds_toArray, List.set_cons_zero, List.set_cons_succ, i64_w, i32_w]
                    rfl
                  refine pure_ (i := 16) (N := some 65) (v := ?_) (a' := ?_) #[true, true, true, true, true, true, true, true, true, true, true, true, true, true, true, true, true, false, false, false, false, false, false, false, false, false, false, false] rfl rfl (any_of HT_.out (by kernel_rfl)) (fun _ _ _ h => h) (Or.inl ⟨by rfl, ?_⟩) ?_ ?_
                  rotate_left
                  · intro w'
                    go_simp
                    with_reducible rfl
                  rotate_left
                  · simp only [Act.put, List.setIfInBounds_toArray, List.set_cons_zero, List.set_cons_succ, i64_w, i32_w]
                    rfl
                  refine pure_ (i := 17) (N := some 66) (v := ?_) (a' := ?_) #[true, true, true, true, true, true, true, true, true, true, true, true, true, true, true, true, true, true, false, false, false, false, false, false, false, false, false, false] rfl rfl (any_of HT_.out (by kernel_rfl)) (fun _ _ _ h => h) (Or.inl ⟨by rfl, ?_⟩) ?_ ?_
                  rotate_left
                  · intro w'
                    go_simp
                    with_reducible rfl
                  rotate_left
                  · simp only [Act.put, List.setIfInBounds_toArray, List.set_cons_zero, List.set_cons_succ, i64_w, i32_w]
                    rfl
                  refine pure_ (i := 18) (N := some 67) (v := ?_) (a' := ?_) #[true, true, true, true, true, true, true, true, true, true, true, true, true, true, true, true, true, true, true, false, false, false, false, false, false, false, false, false] rfl rfl (any_of HT_.out (by kernel_rfl)) (fun _ _ _ h => h) (Or.inl ⟨by rfl, ?_⟩) ?_ ?_
                  rotate_left
                  · intro w'
                    go_simp
                    with_reducible rfl
                  rotate_left
                  · simp only [Act.put, List.setIfInBounds_toArray, List.set_cons_zero, List.set_cons_succ, i64_w, i32_w]
                    rfl
                  refine pure_ (i := 19) (N := some 68) (v := ?_) (a' := ?_) #[true, true, true, true, true, true, true, true, true, true, true, true, true, true, true, true, true, true, true, true, false, false, false, false, false, false, false, false] rfl rfl (any_of HT_.out (by kernel_rfl)) (fun _ _ _ h => h) (Or.inl ⟨by rfl, ?_⟩) ?_ ?_
                  rotate_left
                  · intro w'
                    go_simp
                    with_reducible rfl
                  rotate_left
                  · simp only [Act.put, List.setIfInBounds_toArray, List.set_cons_zero, List.set_cons_succ, i64_w, i32_w]
                    rfl
                  refine pure_ (i := 20) (N := some 69) (v := ?_) (a' := ?_) #[true, true, true, true, true, true, true, true, true, true, true, true, true, true, true, true, true, true, true, true, true, false, false, false, false, false, false, false] rfl rfl (any_of HT_.out (by kernel_rfl)) (fun _ _ _ h => h) (Or.inl ⟨by rfl, ?_⟩) ?_ ?_
                  rotate_left
                  · intro w'
                    go_simp
                    with_reducible rfl
                  rotate_left
                  · simp only [Act.put, List.setIfInBounds_toArray, List.set_cons_zero, List.set_cons_succ, i64_w, i32_w]
                    rfl
                  refine pure_ (i := 23) (N := some 72) (v := ?_) (a' := ?_) #[true, true, true, true, true, true, true, true, true, true, true, true, true, true, true, true, true, true, true, true, true, false, false, true, false, false, false, false] rfl rfl (any_of HT_.out (by kernel_rfl)) (fun _ _ _ h => h) (Or.inl ⟨by rfl, ?_⟩) ?_ ?_
                  rotate_left
                  · intro w'
                    go_simp
                    with_reducible rfl
                  rotate_left
                  · simp only [Act.put, List.setIfInBounds_toArray, List.set_cons_zero, List.set_cons_succ, i64_w, i32_w]
                    rfl
                  refine take_ (i := 21) (N := some 70) (v := ?_) (a' := ?_) #[true, true, true, true, true, true, true, true, true, true, true, true, true, true, true, true, true, true, true, true, true, true, false, true, false, false, false, false] rfl rfl (take_ofW HT_.out HW_.out (by kernel_rfl)) (fun _ _ _ h => h) (Or.inl ⟨by rfl, ?_⟩) hHeld ?_ ?_
                  rotate_left
                  · rintro w' ⟨s0, s1, s2, s3⟩
                    go_simp
                    with_reducible rfl
                  rotate_left
                  · simp only [Act.put, List.setIfInBounds_toArray, List.set_cons_zero, List.set_cons_succ, i64_w, i32_w]
                    rfl
                  refine one_ (i := 22) (N := some 71) #[true, true, true, true, true, true, true, true, true, true, true, true, true, true, true, true, true, true, true, true, true, true, true, true, false, false, false, false] rfl rfl (one_of HT_.out (by kernel_rfl)) (by decide) (fun K hK => ?_)
                  refine goes_ Tryd.func29 (by kernel_rfl) rfl #[.agg #[.int .i64 t338, .int .i64 t339, .int .i64 t340, .int .i64 t341]] (by rfl) rfl rfl (by (try simp only [List.map_toArray, List.map_cons, List.map_nil]); first | done | rfl | (simp only [List.length_drop, List.length_take]; rfl)) ?_
                  with_reducible refine (page_Key.calls t338 t339 t340 t341 t367 _ ?side1 A72.out).mono ?_
                  (case side1 => exact ⟨Good.below hG.out (by repeat (first | (with_reducible first | exact HB.out | apply below_alloc | apply pw_below_drewN | apply below_drew1 | refine below_set ?_ GE331.out | refine below_set ?_ GE343.out | refine below_set ?_ GE349.out | refine below_set ?_ GE360.out) | exact HB.out))⟩)
                  rintro e w82 ⟨rfl, hb⟩
                  refine ⟨_, rfl, ?_⟩
                  have n0_ := Aside0.mk (blk_below (g := gb331) (o := .cells #[.int .i64 a0_0, .int .i64 a0_1, .int .i64 a0_2, .int .i64 a0_3] 39 (0, 0)) (by (with_reducible repeat (first | refine blk_drewN ?_ _ | refine blk_drew ?_ | refine blk_alloc ?_ _)); exact BK331.out) hb)
                  have n1_ := Aside0.mk (blk_below (g := gb343) (o := .cells #[.int .i64 t338, .int .i64 t339, .int .i64 t340, .int .i64 t341] 44 (0, 0)) (by (with_reducible repeat (first | refine blk_drewN ?_ _ | refine blk_drew ?_ | refine blk_alloc ?_ _)); exact BK343.out) hb)
                  have n2_ := Aside0.mk (blk_below (g := gb349) (o := .cells #[.int .i64 t344, .int .i64 t345, .int .i64 t346, .int .i64 t347] 39 (0, 0)) (by (with_reducible repeat (first | refine blk_drewN ?_ _ | refine blk_drew ?_ | refine blk_alloc ?_ _)); exact BK349.out) hb)
                  have n3_ := Aside0.mk (blk_below (g := gb360) (o := .cells #[.int .i64 t355, .int .i64 t356, .int .i64 t357, .int .i64 t358] 44 (0, 0)) (by (with_reducible repeat (first | refine blk_drewN ?_ _ | refine blk_drew ?_ | refine blk_alloc ?_ _)); exact BK360.out) hb)
                  have n4_ := Aside0.mk (below_step (by repeat (first | (with_reducible first | exact HB.out | apply below_alloc | apply pw_below_drewN | apply below_drew1 | refine below_set ?_ GE331.out | refine below_set ?_ GE343.out | refine below_set ?_ GE349.out | refine below_set ?_ GE360.out) | exact HB.out)) hb)
                  clear BK331
                  clear BK343
                  clear BK349
                  clear BK360
                  clear HB
                  have BK331 := n0_
                  have BK343 := n1_
                  have BK349 := n2_
                  have BK360 := n3_
                  have HB := n4_
                  clear n0_ n1_ n2_ n3_ n4_
                  (try clear hb)
                  (try clear hb2)
                  (try clear hk)
                  (try clear hi)
                  refine hK.out _ _ ⟨(blk_cell BK343.out 0).trans rfl, (blk_cell BK343.out 1).trans rfl, (blk_cell BK343.out 2).trans rfl, (blk_cell BK343.out 3).trans rfl⟩ (fun hHeld => ?_)
                  clear hK K
                  refine norm_ (a' := ?_) ?_ ?_
                  rotate_left
                  · show Act.put _ (some 71) _ = _
                    simp only [Act.put, List.setIfInBounds_toArray, List.set_cons_zero, List.set_cons_succ, i64_w, i32_w]
                    rfl
                  refine pure_ (i := 24) (N := some 73) (v := ?_) (a' := ?_) #[true, true, true, true, true, true, true, true, true, true, true, true, true, true, true, true, true, true, true, true, true, true, true, true, true, false, false, false] rfl rfl (any_of HT_.out (by kernel_rfl)) (fun _ _ _ h => h) (Or.inl ⟨by rfl, ?_⟩) ?_ ?_
                  rotate_left
                  · intro w'
                    go_simp
                    with_reducible rfl
                  rotate_left
                  · simp only [Act.put, List.setIfInBounds_toArray, List.set_cons_zero, List.set_cons_succ, i64_w, i32_w]
                    rfl
                  refine pure_ (i := 25) (N := some 74) (v := ?_) (a' := ?_) #[true, true, true, true, true, true, true, true, true, true, true, true, true, true, true, true, true, true, true, true, true, true, true, true, true, true, false, false] rfl rfl (any_of HT_.out (by kernel_rfl)) (fun _ _ _ h => h) (Or.inl ⟨by rfl, ?_⟩) ?_ ?_
                  rotate_left
                  · intro w'
                    go_simp
                    with_reducible rfl
                  rotate_left
                  · simp only [Act.put, List.setIfInBounds_toArray, List.set_cons_zero, List.set_cons_succ, i64_w, i32_w]
                    rfl
                  refine pure_ (i := 26) (N := some 75) (v := ?_) (a' := ?_) #[true, true, true, true, true, true, true, true, true, true, true, true, true, true, true, true, true, true, true, true, true, true, true, true, true, true, true, false] rfl rfl (any_of HT_.out (by kernel_rfl)) (fun _ _ _ h => h) (Or.inl ⟨by rfl, ?_⟩) ?_ ?_
                  rotate_left
                  · intro w'
                    go_simp
                    with_reducible rfl
                  rotate_left
                  · simp only [Act.put, List.setIfInBounds_toArray, List.set_cons_zero, List.set_cons_succ, i64_w, i32_w]
                    rfl
                  refine pure_ (i := 27) (N := some 4) (v := ?_) (a' := ?_) #[true, true, true, true, true, true, true, true, true, true, true, true, true, true, true, true, true, true, true, true, true, true, true, true, true, true, true, true] rfl rfl (any_of HT_.out (by kernel_rfl)) (fun _ _ _ h => h) (Or.inl ⟨by rfl, ?_⟩) ?_ ?_
                  rotate_left
                  · intro w'
                    go_simp
                    with_reducible rfl
                  rotate_left
                  · simp only [Act.put, List.setIfInBounds_toArray, List.set_cons_zero, List.set_cons_succ, i64_w, i32_w]
                    rfl
                  refine done_ (done_of HT_.out (by kernel_rfl)) ?_
                  try go_wp2
                  go_ret
                  exact ⟨by first | rfl | (simp [errW_none, errW_some] <;> rfl) | (simp [*, errW_none, errW_some] <;> rfl), by repeat (first | (with_reducible first | exact HB.out | apply below_alloc | apply pw_below_drewN | apply below_drew1 | refine below_set ?_ GE331.out | refine below_set ?_ GE343.out | refine below_set ?_ GE349.out | refine below_set ?_ GE360.out) | exact HB.out)⟩
                · replace c71 := Bool.eq_false_iff.mpr c71
                  subst c71
                  have H1 : (some true) = some r := by rw [if_neg (show ¬ (false = true) by decide)] at H; exact H
                  clear H
                  have H := H1
                  clear H1
                  obtain rfl := Option.some.inj H
                  try go_wp2_with (first | ((with_reducible refine gate_callee (f := 31) rfl ?_); refine goesL_ (some 46) rfl rfl Tryd.func31 (by kernel_rfl) rfl #[.string t337] rfl (by (try simp only [List.map_toArray, List.map_cons, List.map_nil]); first | done | rfl | (simp only [List.length_drop, List.length_take]; rfl)) ?_; (with_reducible refine (page_Parse.calls t337 t355 t356 t357 t358 false _ ?side1 A41.out).mono ?_); (case side1 => exact ⟨Good.below hG.out (by repeat (first | (with_reducible first | exact HB.out | apply below_alloc | apply pw_below_drewN | apply below_drew1 | refine below_set ?_ GE331.out | refine below_set ?_ GE343.out | refine below_set ?_ GE349.out) | exact HB.out))⟩); rintro e w83 ⟨rfl, hb⟩; refine ⟨_, rfl, ?_⟩; have n0_ := Aside0.mk (blk_below (g := gb331) (o := .cells #[.int .i64 a0_0, .int .i64 a0_1, .int .i64 a0_2, .int .i64 a0_3] 39 (0, 0)) (by (with_reducible repeat (first | refine blk_drewN ?_ _ | refine blk_drew ?_ | refine blk_alloc ?_ _)); exact BK331.out) hb); have n1_ := Aside0.mk (blk_below (g := gb343) (o := .cells #[.int .i64 t338, .int .i64 t339, .int .i64 t340, .int .i64 t341] 44 (0, 0)) (by (with_reducible repeat (first | refine blk_drewN ?_ _ | refine blk_drew ?_ | refine blk_alloc ?_ _)); exact BK343.out) hb); have n2_ := Aside0.mk (blk_below (g := gb349) (o := .cells #[.int .i64 t344, .int .i64 t345, .int .i64 t346, .int .i64 t347] 39 (0, 0)) (by (with_reducible repeat (first | refine blk_drewN ?_ _ | refine blk_drew ?_ | refine blk_alloc ?_ _)); exact BK349.out) hb); have n3_ := Aside0.mk (below_step (by repeat (first | (with_reducible first | exact HB.out | apply below_alloc | apply pw_below_drewN | apply below_drew1 | refine below_set ?_ GE331.out | refine below_set ?_ GE343.out | refine below_set ?_ GE349.out) | exact HB.out)) hb); clear BK331; clear BK343; clear BK349; clear HB; have BK331 := n0_; have BK343 := n1_; have BK349 := n2_; have HB := n3_; clear n0_ n1_ n2_ n3_; (try clear hb); (try clear hb2); (try clear hk); (try clear hi)) | ((with_reducible refine gate_dst (N := 10) rfl ?_); refine box_event ?hg (N := 10) ?hd (cs := #[.int .i64 0, .int .i64 0, .int .i64 0, .int .i64 0]) (t := 44) ?hr ?_; (case hd => rfl); (case hg => rfl); (case hr => first | (go_simp; done) | (go_simp; rfl)); intro gb360 hg w84 hbox hb; have n0_ := Aside0.mk (blk_below (g := gb331) (o := .cells #[.int .i64 a0_0, .int .i64 a0_1, .int .i64 a0_2, .int .i64 a0_3] 39 (0, 0)) (by (with_reducible repeat (first | refine blk_drewN ?_ _ | refine blk_drew ?_ | refine blk_alloc ?_ _)); exact BK331.out) hb); have n1_ := Aside0.mk (blk_below (g := gb343) (o := .cells #[.int .i64 t338, .int .i64 t339, .int .i64 t340, .int .i64 t341] 44 (0, 0)) (by (with_reducible repeat (first | refine blk_drewN ?_ _ | refine blk_drew ?_ | refine blk_alloc ?_ _)); exact BK343.out) hb); have n2_ := Aside0.mk (blk_below (g := gb349) (o := .cells #[.int .i64 t344, .int .i64 t345, .int .i64 t346, .int .i64 t347] 39 (0, 0)) (by (with_reducible repeat (first | refine blk_drewN ?_ _ | refine blk_drew ?_ | refine blk_alloc ?_ _)); exact BK349.out) hb); have n3_ := Aside0.mk (below_step (by repeat (first | (with_reducible first | exact HB.out | apply below_alloc | apply pw_below_drewN | apply below_drew1 | refine below_set ?_ GE331.out | refine below_set ?_ GE343.out | refine below_set ?_ GE349.out) | exact HB.out)) hb); have n4_ := Aside0.mk (hbox); have n5_ := Aside0.mk ((by rw [hg]; exact (below_size (by repeat (first | (with_reducible first | exact HB.out | apply below_alloc | apply pw_below_drewN | apply below_drew1 | refine below_set ?_ GE331.out | refine below_set ?_ GE343.out | refine below_set ?_ GE349.out) | exact HB.out))) : w.heap.size ≤ gb360)); have n6_ := Aside0.mk ((by rw [hg]; exact (below_size (by repeat (first | (with_reducible first | exact HB.out | apply below_alloc | apply pw_below_drewN | apply below_drew1 | refine below_set ?_ GE331.out | refine below_set ?_ GE343.out | refine below_set ?_ GE349.out) | exact HB.out))) : w.heap.size ≤ gb360)); have n7_ := Aside0.mk ((by rw [hg]; exact Nat.ne_of_lt (blk_lt (g := gb331) (o := .cells #[.int .i64 a0_0, .int .i64 a0_1, .int .i64 a0_2, .int .i64 a0_3] 39 (0, 0)) (by (with_reducible repeat (first | refine blk_drewN ?_ _ | refine blk_drew ?_ | refine blk_alloc ?_ _)); exact BK331.out)) : gb331 ≠ gb360)); have n8_ := Aside0.mk ((by rw [hg]; exact Nat.ne_of_gt (blk_lt (g := gb331) (o := .cells #[.int .i64 a0_0, .int .i64 a0_1, .int .i64 a0_2, .int .i64 a0_3] 39 (0, 0)) (by (with_reducible repeat (first | refine blk_drewN ?_ _ | refine blk_drew ?_ | refine blk_alloc ?_ _)); exact BK331.out)) : gb360 ≠ gb331)); have n9_ := Aside0.mk ((by rw [hg]; exact Nat.ne_of_lt (blk_lt (g := gb343) (o := .cells #[.int .i64 t338, .int .i64 t339, .int .i64 t340, .int .i64 t341] 44 (0, 0)) (by (with_reducible repeat (first | refine blk_drewN ?_ _ | refine blk_drew ?_ | refine blk_alloc ?_ _)); exact BK343.out)) : gb343 ≠ gb360)); have n10_ := Aside0.mk ((by rw [hg]; exact Nat.ne_of_gt (blk_lt (g := gb343) (o := .cells #[.int .i64 t338, .int .i64 t339, .int .i64 t340, .int .i64 t341] 44 (0, 0)) (by (with_reducible repeat (first | refine blk_drewN ?_ _ | refine blk_drew ?_ | refine blk_alloc ?_ _)); exact BK343.out)) : gb360 ≠ gb343)); have n11_ := Aside0.mk ((by rw [hg]; exact Nat.ne_of_lt (blk_lt (g := gb349) (o := .cells #[.int .i64 t344, .int .i64 t345, .int .i64 t346, .int .i64 t347] 39 (0, 0)) (by (with_reducible repeat (first | refine blk_drewN ?_ _ | refine blk_drew ?_ | refine blk_alloc ?_ _)); exact BK349.out)) : gb349 ≠ gb360)); have n12_ := Aside0.mk ((by rw [hg]; exact Nat.ne_of_gt (blk_lt (g := gb349) (o := .cells #[.int .i64 t344, .int .i64 t345, .int .i64 t346, .int .i64 t347] 39 (0, 0)) (by (with_reducible repeat (first | refine blk_drewN ?_ _ | refine blk_drew ?_ | refine blk_alloc ?_ _)); exact BK349.out)) : gb360 ≠ gb349)); clear BK331; clear BK343; clear BK349; clear HB; have BK331 := n0_; have BK343 := n1_; have BK349 := n2_; have HB := n3_; have BK360 := n4_; have GW360 := n5_; have GE360 := n6_; have NB331_360 := n7_; have NB360_331 := n8_; have NB343_360 := n9_; have NB360_343 := n10_; have NB349_360 := n11_; have NB360_349 := n12_; clear n0_ n1_ n2_ n3_ n4_ n5_ n6_ n7_ n8_ n9_ n10_ n11_ n12_; clear hb hbox hg; have hnb85 := NB360_331.out; have hnc85 := NB331_360.out; have hnb86 := NB360_343.out; have hnc86 := NB343_360.out; have hnb87 := NB360_349.out; have hnc87 := NB349_360.out; have hcz88_0 : w84.cell? ⟨gb360, 0, none⟩ = some (.int .i64 0) := (blk_cell BK360.out 0).trans rfl; have hcz88_1 : w84.cell? ⟨gb360, 1, none⟩ = some (.int .i64 0) := (blk_cell BK360.out 1).trans rfl; have hcz88_2 : w84.cell? ⟨gb360, 2, none⟩ = some (.int .i64 0) := (blk_cell BK360.out 2).trans rfl; have hcz88_3 : w84.cell? ⟨gb360, 3, none⟩ = some (.int .i64 0) := (blk_cell BK360.out 3).trans rfl; have hfz88_0 := blk_frozen BK360.out 0; have hfz88_1 := blk_frozen BK360.out 1; have hfz88_2 := blk_frozen BK360.out 2; have hfz88_3 := blk_frozen BK360.out 3))
                  have n0_ : Aside0 (((((w84.setCell ⟨gb360, 0, none⟩ (.int .i64 t355)).setCell ⟨gb360, 1, none⟩ (.int .i64 t356)).setCell ⟨gb360, 2, none⟩ (.int .i64 t357)).setCell ⟨gb360, 3, none⟩ (.int .i64 t358)).heap[gb331]? = some (.cells #[.int .i64 a0_0, .int .i64 a0_1, .int .i64 a0_2, .int .i64 a0_3] 39 (0, 0))) := ⟨by (with_reducible repeat (first | refine blk_drewN ?_ _ | refine blk_drew ?_ | refine blk_alloc ?_ _)); refine blk_far ?_ NB331_360.out _; (with_reducible repeat (first | refine blk_drewN ?_ _ | refine blk_drew ?_ | refine blk_alloc ?_ _)); refine blk_far ?_ NB331_360.out _; (with_reducible repeat (first | refine blk_drewN ?_ _ | refine blk_drew ?_ | refine blk_alloc ?_ _)); refine blk_far ?_ NB331_360.out _; (with_reducible repeat (first | refine blk_drewN ?_ _ | refine blk_drew ?_ | refine blk_alloc ?_ _)); refine blk_far ?_ NB331_360.out _; (with_reducible repeat (first | refine blk_drewN ?_ _ | refine blk_drew ?_ | refine blk_alloc ?_ _)); exact BK331.out⟩
                  have n1_ : Aside0 (((((w84.setCell ⟨gb360, 0, none⟩ (.int .i64 t355)).setCell ⟨gb360, 1, none⟩ (.int .i64 t356)).setCell ⟨gb360, 2, none⟩ (.int .i64 t357)).setCell ⟨gb360, 3, none⟩ (.int .i64 t358)).heap[gb343]? = some (.cells #[.int .i64 t338, .int .i64 t339, .int .i64 t340, .int .i64 t341] 44 (0, 0))) := ⟨by (with_reducible repeat (first | refine blk_drewN ?_ _ | refine blk_drew ?_ | refine blk_alloc ?_ _)); refine blk_far ?_ NB343_360.out _; (with_reducible repeat (first | refine blk_drewN ?_ _ | refine blk_drew ?_ | refine blk_alloc ?_ _)); refine blk_far ?_ NB343_360.out _; (with_reducible repeat (first | refine blk_drewN ?_ _ | refine blk_drew ?_ | refine blk_alloc ?_ _)); refine blk_far ?_ NB343_360.out _; (with_reducible repeat (first | refine blk_drewN ?_ _ | refine blk_drew ?_ | refine blk_alloc ?_ _)); refine blk_far ?_ NB343_360.out _; (with_reducible repeat (first | refine blk_drewN ?_ _ | refine blk_drew ?_ | refine blk_alloc ?_ _)); exact BK343.out⟩
                  have n2_ : Aside0 (((((w84.setCell ⟨gb360, 0, none⟩ (.int .i64 t355)).setCell ⟨gb360, 1, none⟩ (.int .i64 t356)).setCell ⟨gb360, 2, none⟩ (.int .i64 t357)).setCell ⟨gb360, 3, none⟩ (.int .i64 t358)).heap[gb349]? = some (.cells #[.int .i64 t344, .int .i64 t345, .int .i64 t346, .int .i64 t347] 39 (0, 0))) := ⟨by (with_reducible repeat (first | refine blk_drewN ?_ _ | refine blk_drew ?_ | refine blk_alloc ?_ _)); refine blk_far ?_ NB349_360.out _; (with_reducible repeat (first | refine blk_drewN ?_ _ | refine blk_drew ?_ | refine blk_alloc ?_ _)); refine blk_far ?_ NB349_360.out _; (with_reducible repeat (first | refine blk_drewN ?_ _ | refine blk_drew ?_ | refine blk_alloc ?_ _)); refine blk_far ?_ NB349_360.out _; (with_reducible repeat (first | refine blk_drewN ?_ _ | refine blk_drew ?_ | refine blk_alloc ?_ _)); refine blk_far ?_ NB349_360.out _; (with_reducible repeat (first | refine blk_drewN ?_ _ | refine blk_drew ?_ | refine blk_alloc ?_ _)); exact BK349.out⟩
                  have n3_ : Aside0 (((((w84.setCell ⟨gb360, 0, none⟩ (.int .i64 t355)).setCell ⟨gb360, 1, none⟩ (.int .i64 t356)).setCell ⟨gb360, 2, none⟩ (.int .i64 t357)).setCell ⟨gb360, 3, none⟩ (.int .i64 t358)).heap[gb360]? = some (.cells #[.int .i64 t355, .int .i64 t356, .int .i64 t357, .int .i64 t358] 44 (0, 0))) := ⟨by (with_reducible repeat (first | refine blk_drewN ?_ _ | refine blk_drew ?_ | refine blk_alloc ?_ _)); refine blk_put (cs := #[.int .i64 t355, .int .i64 t356, .int .i64 t357, .int .i64 0]) ?_ 3 _ rfl; (with_reducible repeat (first | refine blk_drewN ?_ _ | refine blk_drew ?_ | refine blk_alloc ?_ _)); refine blk_put (cs := #[.int .i64 t355, .int .i64 t356, .int .i64 0, .int .i64 0]) ?_ 2 _ rfl; (with_reducible repeat (first | refine blk_drewN ?_ _ | refine blk_drew ?_ | refine blk_alloc ?_ _)); refine blk_put (cs := #[.int .i64 t355, .int .i64 0, .int .i64 0, .int .i64 0]) ?_ 1 _ rfl; (with_reducible repeat (first | refine blk_drewN ?_ _ | refine blk_drew ?_ | refine blk_alloc ?_ _)); refine blk_put (cs := #[.int .i64 0, .int .i64 0, .int .i64 0, .int .i64 0]) ?_ 0 _ rfl; (with_reducible repeat (first | refine blk_drewN ?_ _ | refine blk_drew ?_ | refine blk_alloc ?_ _)); exact BK360.out⟩
                  have n4_ : Aside0 (Below w.heap.size w ((((w84.setCell ⟨gb360, 0, none⟩ (.int .i64 t355)).setCell ⟨gb360, 1, none⟩ (.int .i64 t356)).setCell ⟨gb360, 2, none⟩ (.int .i64 t357)).setCell ⟨gb360, 3, none⟩ (.int .i64 t358))) := ⟨by repeat (first | (with_reducible first | exact HB.out | apply below_alloc | apply pw_below_drewN | apply below_drew1 | refine below_set ?_ GE331.out | refine below_set ?_ GE343.out | refine below_set ?_ GE349.out | refine below_set ?_ GE360.out) | exact HB.out)⟩
                  (try clear BK331)
                  (try clear BK343)
                  (try clear BK349)
                  (try clear BK360)
                  (try clear HB)
                  generalize ((((w84.setCell ⟨gb360, 0, none⟩ (.int .i64 t355)).setCell ⟨gb360, 1, none⟩ (.int .i64 t356)).setCell ⟨gb360, 2, none⟩ (.int .i64 t357)).setCell ⟨gb360, 3, none⟩ (.int .i64 t358)) = w89 at n0_ n1_ n2_ n3_ n4_ ⊢
                  have BK331 := n0_
                  have BK343 := n1_
                  have BK349 := n2_
                  have BK360 := n3_
                  have HB := n4_
                  clear n0_ n1_ n2_ n3_ n4_
                  have n0_ := Aside0.mk (blk_drew BK331.out)
                  have n1_ := Aside0.mk (blk_drew BK343.out)
                  have n2_ := Aside0.mk (blk_drew BK349.out)
                  have n3_ := Aside0.mk (blk_drew BK360.out)
                  have n4_ := Aside0.mk (below_drew1 HB.out)
                  clear BK331
                  clear BK343
                  clear BK349
                  clear BK360
                  clear HB
                  have BK331 := n0_
                  have BK343 := n1_
                  have BK349 := n2_
                  have BK360 := n3_
                  have HB := n4_
                  clear n0_ n1_ n2_ n3_ n4_
                  refine start_ (n := 28) (S := fun w' => True) (ds := []) #[false, false, false, false, false, false, false, false, false, false, false, false, false, false, false, false, false, false, false, false, false, false, false, false, false, false, false, false] (by kernel_rfl) rfl rfl trivial (fun hHeld => ?_); refine with_tabW afterglowlaw14_PageKeys.tab9 afterglowlaw14_PageKeys.bits9 (fun HT_ HW_ => ?_)
                  generalize w89.drew = w90 at BK331 BK343 BK349 BK360 HB hHeld ⊢
                  refine one_ (i := 0) (N := some 49) #[true, false, false, false, false, false, false, false, false, false, false, false, false, false, false, false, false, false, false, false, false, false, false, false, false, false, false, false] rfl rfl (one_of HT_.out (by kernel_rfl)) (by decide) (fun K hK => ?_)
                  refine goes_ Tryd.func28 (by kernel_rfl) rfl #[] (by rfl) rfl rfl (by (try simp only [List.map_toArray, List.map_cons, List.map_nil]); first | done | rfl | (simp only [List.length_drop, List.length_take]; rfl)) ?_
                  with_reducible refine (afterglowlaw14_alive.calls kj10  true _ ?side1 A42.out).mono ?_
                  (case side1 => exact ⟨Good.below hG.out (by repeat (first | (with_reducible first | exact HB.out | apply below_alloc | apply pw_below_drewN | apply below_drew1 | refine below_set ?_ GE331.out | refine below_set ?_ GE343.out | refine below_set ?_ GE349.out | refine below_set ?_ GE360.out) | exact HB.out))⟩)
                  rintro e w91 ⟨rfl, hb⟩
                  refine ⟨_, rfl, ?_⟩
                  have n0_ := Aside0.mk (blk_below (g := gb331) (o := .cells #[.int .i64 a0_0, .int .i64 a0_1, .int .i64 a0_2, .int .i64 a0_3] 39 (0, 0)) (by (with_reducible repeat (first | refine blk_drewN ?_ _ | refine blk_drew ?_ | refine blk_alloc ?_ _)); exact BK331.out) hb)
                  have n1_ := Aside0.mk (blk_below (g := gb343) (o := .cells #[.int .i64 t338, .int .i64 t339, .int .i64 t340, .int .i64 t341] 44 (0, 0)) (by (with_reducible repeat (first | refine blk_drewN ?_ _ | refine blk_drew ?_ | refine blk_alloc ?_ _)); exact BK343.out) hb)
                  have n2_ := Aside0.mk (blk_below (g := gb349) (o := .cells #[.int .i64 t344, .int .i64 t345, .int .i64 t346, .int .i64 t347] 39 (0, 0)) (by (with_reducible repeat (first | refine blk_drewN ?_ _ | refine blk_drew ?_ | refine blk_alloc ?_ _)); exact BK349.out) hb)
                  have n3_ := Aside0.mk (blk_below (g := gb360) (o := .cells #[.int .i64 t355, .int .i64 t356, .int .i64 t357, .int .i64 t358] 44 (0, 0)) (by (with_reducible repeat (first | refine blk_drewN ?_ _ | refine blk_drew ?_ | refine blk_alloc ?_ _)); exact BK360.out) hb)
                  have n4_ := Aside0.mk (below_step (by repeat (first | (with_reducible first | exact HB.out | apply below_alloc | apply pw_below_drewN | apply below_drew1 | refine below_set ?_ GE331.out | refine below_set ?_ GE343.out | refine below_set ?_ GE349.out | refine below_set ?_ GE360.out) | exact HB.out)) hb)
                  clear BK331
                  clear BK343
                  clear BK349
                  clear BK360
                  clear HB
                  have BK331 := n0_
                  have BK343 := n1_
                  have BK349 := n2_
                  have BK360 := n3_
                  have HB := n4_
                  clear n0_ n1_ n2_ n3_ n4_
                  (try clear hb)
                  (try clear hb2)
                  (try clear hk)
                  (try clear hi)
                  refine hK.out _ _ trivial (fun hHeld => ?_)
                  clear hK K
                  refine norm_ (a' := ?_) ?_ ?_
                  rotate_left
                  · show Act.put _ (some 49) _ = _
                    simp only [Act.put, List.setIfInBounds_toArray, List.set_cons_zero, List.set_cons_succ, i64_w, i32_w]
                    rfl
                  refine pure_ (i := 1) (N := some 50) (v := ?_) (a' := ?_) #[true, true, false, false, false, false, false, false, false, false, false, false, false, false, false, false, false, false, false, false, false, false, false, false, false, false, false, false] rfl rfl (any_of HT_.out (by kernel_rfl)) (fun _ _ _ h => h) (Or.inl ⟨by rfl, ?_⟩) ?_ ?_
                  rotate_left
                  · intro w'
                    go_simp
                    with_reducible rfl
                  rotate_left
                  · simp only [Act.put, List.setIfInBounds_toArray, List.set_cons_zero, List.set_cons_succ, i64_w, i32_w]
                    rfl
                  refine pure_ (i := 2) (N := some 51) (v := ?_) (a' := ?_) #[true, true, true, false, false, false, false, false, false, false, false, false, false, false, false, false, false, false, false, false, false, false, false, false, false, false, false, false] rfl rfl (any_of HT_.out (by kernel_rfl)) (fun _ _ _ h => h) (Or.inl ⟨by rfl, ?_⟩) ?_ ?_
                  rotate_left
                  · intro w'
                    go_simp
                    with_reducible rfl
                  rotate_left
                  · simp only [Act.put, List.setIfInBounds_toArray, List.set_cons_zero, List.set_cons_succ, i64_w, i32_w]
                    rfl
                  refine pure_ (i := 3) (N := some 52) (v := ?_) (a' := ?_) #[true, true, true, true, false, false, false, false, false, false, false, false, false, false, false, false, false, false, false, false, false, false, false, false, false, false, false, false] rfl rfl (any_of HT_.out (by kernel_rfl)) (fun _ _ _ h => h) (Or.inl ⟨by rfl, ?_⟩) ?_ ?_
                  rotate_left
                  · intro w'
                    go_simp
                    with_reducible rfl
                  rotate_left
                  · simp only [Act.put, List.setIfInBounds_toArray, List.set_cons_zero, List.set_cons_succ, i64_w, i32_w]
                    rfl
                  refine pure_ (i := 4) (N := some 53) (v := ?_) (a' := ?_) #[true, true, true, true, true, false, false, false, false, false, false, false, false, false, false, false, false, false, false, false, false, false, false, false, false, false, false, false] rfl rfl (any_of HT_.out (by kernel_rfl)) (fun _ _ _ h => h) (Or.inl ⟨by rfl, ?_⟩) ?_ ?_
                  rotate_left
                  · intro w'
                    go_simp
                    with_reducible rfl
                  rotate_left
                  · simp only [Act.put, List.setIfInBounds_toArray, List.set_cons_zero, List.set_cons_succ, i64_w, i32_w]
                    rfl
                  refine pure_ (i := 5) (N := some 54) (v := ?_) (a' := ?_) #[true, true, true, true, true, true, false, false, false, false, false, false, false, false, false, false, false, false, false, false, false, false, false, false, false, false, false, false] rfl rfl (any_of HT_.out (by kernel_rfl)) (fun _ _ _ h => h) (Or.inl ⟨by rfl, ?_⟩) ?_ ?_
                  rotate_left
                  · intro w'
                    go_simp
                    with_reducible rfl
                  rotate_left
                  · simp only [Act.put, List.setIfInBounds_toArray, List.set_cons_zero, List.set_cons_succ, i64_w, i32_w]
                    rfl
                  refine pure_ (i := 6) (N := some 55) (v := ?_) (a' := ?_) #[true, true, true, true, true, true, true, false, false, false, false, false, false, false, false, false, false, false, false, false, false, false, false, false, false, false, false, false] rfl rfl (any_of HT_.out (by kernel_rfl)) (fun _ _ _ h => h) (Or.inl ⟨by rfl, ?_⟩) ?_ ?_
                  rotate_left
                  · intro w'
                    go_simp
                    with_reducible rfl
                  rotate_left
                  · simp only [Act.put, List.setIfInBounds_toArray, List.set_cons_zero, List.set_cons_succ, i64_w, i32_w]
                    rfl
                  refine pure_ (i := 7) (N := some 56) (v := ?_) (a' := ?_) #[true, true, true, true, true, true, true, true, false, false, false, false, false, false, false, false, false, false, false, false, false, false, false, false, false, false, false, false] rfl rfl (any_of HT_.out (by kernel_rfl)) (fun _ _ _ h => h) (Or.inl ⟨by rfl, ?_⟩) ?_ ?_
                  rotate_left
                  · intro w'
                    go_simp
                    with_reducible rfl
                  rotate_left
                  · simp only [Act.put, List.setIfInBounds_toArray, List.set_cons_zero, List.set_cons_succ, i64_w, i32_w]
                    rfl
                  refine pure_ (i := 8) (N := some 57) (v := ?_) (a' := ?_) #[true, true, true, true, true, true, true, true, true, false, false, false, false, false, false, false, false, false, false, false, false, false, false, false, false, false, false, false] rfl rfl (any_of HT_.out (by kernel_rfl)) (fun _ _ _ h => h) (Or.inl ⟨by rfl, ?_⟩) ?_ ?_
                  rotate_left
                  · intro w'
                    go_simp
                    with_reducible rfl
                  rotate_left
                  · simp only [Act.put, List.setIfInBounds_toArray, List.set_cons_zero, List.set_cons_succ, i64_w, i32_w]
                    rfl
                  refine pure_ (i := 9) (N := some 58) (v := ?_) (a' := ?_) #[true, true, true, true, true, true, true, true, true, true, false, false, false, false, false, false, false, false, false, false, false, false, false, false, false, false, false, false] rfl rfl (any_of HT_.out (by kernel_rfl)) (fun _ _ _ h => h) (Or.inl ⟨by rfl, ?_⟩) ?_ ?_
                  rotate_left
                  · intro w'
                    go_simp
                    with_reducible rfl
                  rotate_left
                  · simp only [Act.put, List.setIfInBounds_toArray, List.set_cons_zero, List.set_cons_succ, i64_w, i32_w]
                    rfl
                  refine pure_ (i := 10) (N := some 59) (v := ?_) (a' := ?_) #[true, true, true, true, true, true, true, true, true, true, true, false, false, false, false, false, false, false, false, false, false, false, false, false, false, false, false, false] rfl rfl (any_of HT_.out (by kernel_rfl)) (fun _ _ _ h => h) (Or.inl ⟨by rfl, ?_⟩) ?_ ?_
                  rotate_left
                  · intro w'
                    go_simp
                    with_reducible rfl
                  rotate_left
                  · simp only [Act.put, List.setIfInBounds_toArray, List.set_cons_zero, List.set_cons_succ, i64_w, i32_w]
                    rfl
                  refine pure_ (i := 11) (N := some 60) (v := undef) (a' := ?_) #[true, true, true, true, true, true, true, true, true, true, true, true, false, false, false, false, false, false, false, false, false, false, false, false, false, false, false, false] rfl rfl (any_of HT_.out (by kernel_rfl)) (fun _ _ _ h => h) (Or.inr ⟨by rfl, rfl⟩) ?_ ?_
                  rotate_left
                  · simp only [Act.put, List.setIfInBounds_toArray, List.set_cons_zero, List.set_cons_succ, i64_w, i32_w]
                    rfl
                  refine pure_ (i := 12) (N := some 61) (v := undef) (a' := ?_) #[true, true, true, true, true, true, true, true, true, true, true, true, true, false, false, false, false, false, false, false, false, false, false, false, false, false, false, false] rfl rfl (any_of HT_.out (by kernel_rfl)) (fun _ _ _ h => h) (Or.inr ⟨by rfl, rfl⟩) ?_ ?_
                  rotate_left
                  · simp only [Act.put, List.setIfInBounds_toArray, List.set_cons_zero, List.set_cons_succ, i64_w, i32_w]
                    rfl
                  refine pure_ (i := 13) (N := some 62) (v := undef) (a' := ?_) #[true, true, true, true, true, true, true, true, true, true, true, true, true, true, false, false, false, false, false, false, false, false, false, false, false, false, false, false] rfl rfl (any_of HT_.out (by kernel_rfl)) (fun _ _ _ h => h) (Or.inr ⟨by rfl, rfl⟩) ?_ ?_
                  rotate_left
                  · simp only [Act.put, List.setIfInBounds_toArray, List.set_cons_zero, List.set_cons_succ, i64_w, i32_w]
                    rfl
                  refine pure_ (i := 14) (N := some 63) (v := undef) (a' := ?_) #[true, true, true, true, true, true, true, true, true, true, true, true, true, true, true, false, false, false, false, false, false, false, false, false, false, false, false, false] rfl rfl (any_of HT_.out (by kernel_rfl)) (fun _ _ _ h => h) (Or.inr ⟨by rfl, rfl⟩) ?_ ?_
                  rotate_left
                  · simp only [Act.put, List.setIfInBounds_toArray, List.set_cons_zero, List.set_cons_succ, i64_w, i32_w]
                    rfl
                  refine pure_ (i := 15) (N := some 64) (v := ?_) (a' := ?_) #[true, true, true, true, true, true, true, true, true, true, true, true, true, true, true, true, false, false, false, false, false, false, false, false, false, false, false, false] rfl rfl (any_of HT_.out (by kernel_rfl)) (fun _ _ _ h => h) (Or.inl ⟨by rfl, ?_⟩) ?_ ?_
                  rotate_left
                  · intro w'
                    go_simp
                    with_reducible rfl
                  rotate_left
                  · simp only [Act.put, List.setIfInBounds_toArray, List.set_cons_zero, List.set_cons_succ, i64_w, i32_w]
                    rfl
                  refine pure_ (i := 16) (N := some 65) (v := ?_) (a' := ?_) #[true, true, true, true, true, true, true, true, true, true, true, true, true, true, true, true, true, false, false, false, false, false, false, false, false, false, false, false] rfl rfl (any_of HT_.out (by kernel_rfl)) (fun _ _ _ h => h) (Or.inl ⟨by rfl, ?_⟩) ?_ ?_
                  rotate_left
                  · intro w'
                    go_simp
                    with_reducible rfl
                  rotate_left
                  · simp only [Act.put, List.setIfInBounds_toArray, List.set_cons_zero, List.set_cons_succ, i64_w, i32_w]
                    rfl
                  refine pure_ (i := 17) (N := some 66) (v := ?_) (a' := ?_) #[true, true, true, true, true, true, true, true, true, true, true, true, true, true, true, true, true, true, false, false, false, false, false, false, false, false, false, false] rfl rfl (any_of HT_.out (by kernel_rfl)) (fun _ _ _ h => h) (Or.inl ⟨by rfl, ?_⟩) ?_ ?_
                  rotate_left
                  · intro w'
                    go_simp
                    with_reducible rfl
                  rotate_left
                  · simp only [Act.put, List.setIfInBounds_toArray, List.set_cons_zero, List.set_cons_succ, i64_w, i32_w]
                    rfl
                  refine pure_ (i := 18) (N := some 67) (v := ?_) (a' := ?_) #[true, true, true, true, true, true, true, true, true, true, true, true, true, true, true, true, true, true, true, false, false, false, false, false, false, false, false, false] rfl rfl (any_of HT_.out (by kernel_rfl)) (fun _ _ _ h => h) (Or.inl ⟨by rfl, ?_⟩) ?_ ?_
                  rotate_left
                  · intro w'
                    go_simp
                    with_reducible rfl
                  rotate_left
                  · simp only [Act.put, List.setIfInBounds_toArray, List.set_cons_zero, List.set_cons_succ, i64_w, i32_w]
                    rfl
                  refine pure_ (i := 19) (N := some 68) (v := ?_) (a' := ?_) #[true, true, true, true, true, true, true, true, true, true, true, true, true, true, true, true, true, true, true, true, false, false, false, false, false, false, false, false] rfl rfl (any_of HT_.out (by kernel_rfl)) (fun _ _ _ h => h) (Or.inl ⟨by rfl, ?_⟩) ?_ ?_
                  rotate_left
                  · intro w'
                    go_simp
                    with_reducible rfl
                  rotate_left
                  · simp only [Act.put, List.setIfInBounds_toArray, List.set_cons_zero, List.set_cons_succ, i64_w, i32_w]
                    rfl
                  refine pure_ (i := 20) (N := some 69) (v := ?_) (a' := ?_) #[true, true, true, true, true, true, true, true, true, true, true, true, true, true, true, true, true, true, true, true, true, false, false, false, false, false, false, false] rfl rfl (any_of HT_.out (by kernel_rfl)) (fun _ _ _ h => h) (Or.inl ⟨by rfl, ?_⟩) ?_ ?_
                  rotate_left
                  · intro w'
                    go_simp
                    with_reducible rfl
                  rotate_left
                  · simp only [Act.put, List.setIfInBounds_toArray, List.set_cons_zero, List.set_cons_succ, i64_w, i32_w]
                    rfl
                  refine pure_ (i := 21) (N := some 70) (v := undef) (a' := ?_) #[true, true, true, true, true, true, true, true, true, true, true, true, true, true, true, true, true, true, true, true, true, true, false, false, false, false, false, false] rfl rfl (any_of HT_.out (by kernel_rfl)) (fun _ _ _ h => h) (Or.inr ⟨by rfl, rfl⟩) ?_ ?_
                  rotate_left
                  · simp only [Act.put, List.setIfInBounds_toArray, List.set_cons_zero, List.set_cons_succ, i64_w, i32_w]
                    rfl
                  refine pure_ (i := 22) (N := some 71) (v := undef) (a' := ?_) #[true, true, true, true, true, true, true, true, true, true, true, true, true, true, true, true, true, true, true, true, true, true, true, false, false, false, false, false] rfl rfl (any_of HT_.out (by kernel_rfl)) (fun _ _ _ h => h) (Or.inr ⟨by rfl, rfl⟩) ?_ ?_
                  rotate_left
                  · simp only [Act.put, List.setIfInBounds_toArray, List.set_cons_zero, List.set_cons_succ, i64_w, i32_w]
                    rfl
                  refine pure_ (i := 23) (N := some 72) (v := undef) (a' := ?_) #[true, true, true, true, true, true, true, true, true, true, true, true, true, true, true, true, true, true, true, true, true, true, true, true, false, false, false, false] rfl rfl (any_of HT_.out (by kernel_rfl)) (fun _ _ _ h => h) (Or.inr ⟨by rfl, rfl⟩) ?_ ?_
                  rotate_left
                  · simp only [Act.put, List.setIfInBounds_toArray, List.set_cons_zero, List.set_cons_succ, i64_w, i32_w]
                    rfl
                  refine pure_ (i := 24) (N := some 73) (v := undef) (a' := ?_) #[true, true, true, true, true, true, true, true, true, true, true, true, true, true, true, true, true, true, true, true, true, true, true, true, true, false, false, false] rfl rfl (any_of HT_.out (by kernel_rfl)) (fun _ _ _ h => h) (Or.inr ⟨by rfl, rfl⟩) ?_ ?_
                  rotate_left
                  · simp only [Act.put, List.setIfInBounds_toArray, List.set_cons_zero, List.set_cons_succ, i64_w, i32_w]
                    rfl
                  refine pure_ (i := 25) (N := some 74) (v := ?_) (a' := ?_) #[true, true, true, true, true, true, true, true, true, true, true, true, true, true, true, true, true, true, true, true, true, true, true, true, true, true, false, false] rfl rfl (any_of HT_.out (by kernel_rfl)) (fun _ _ _ h => h) (Or.inl ⟨by rfl, ?_⟩) ?_ ?_
                  rotate_left
                  · intro w'
                    go_simp
                    with_reducible rfl
                  rotate_left
                  · simp only [Act.put, List.setIfInBounds_toArray, List.set_cons_zero, List.set_cons_succ, i64_w, i32_w]
                    rfl
                  refine pure_ (i := 26) (N := some 75) (v := ?_) (a' := ?_) #[true, true, true, true, true, true, true, true, true, true, true, true, true, true, true, true, true, true, true, true, true, true, true, true, true, true, true, false] rfl rfl (any_of HT_.out (by kernel_rfl)) (fun _ _ _ h => h) (Or.inl ⟨by rfl, ?_⟩) ?_ ?_
                  rotate_left
                  · intro w'
                    go_simp
                    with_reducible rfl
                  rotate_left
                  · simp only [Act.put, List.setIfInBounds_toArray, List.set_cons_zero, List.set_cons_succ, i64_w, i32_w]
                    rfl
                  refine pure_ (i := 27) (N := some 4) (v := ?_) (a' := ?_) #[true, true, true, true, true, true, true, true, true, true, true, true, true, true, true, true, true, true, true, true, true, true, true, true, true, true, true, true] rfl rfl (any_of HT_.out (by kernel_rfl)) (fun _ _ _ h => h) (Or.inl ⟨by rfl, ?_⟩) ?_ ?_
                  rotate_left
                  · intro w'
                    go_simp
                    with_reducible rfl
                  rotate_left
                  · simp only [Act.put, List.setIfInBounds_toArray, List.set_cons_zero, List.set_cons_succ, i64_w, i32_w]
                    rfl
                  refine done_ (done_of HT_.out (by kernel_rfl)) ?_
                  try go_wp2
                  go_ret
                  exact ⟨by first | rfl | (simp [errW_none, errW_some] <;> rfl) | (simp [*, errW_none, errW_some] <;> rfl), by repeat (first | (with_reducible first | exact HB.out | apply below_alloc | apply pw_below_drewN | apply below_drew1 | refine below_set ?_ GE331.out | refine below_set ?_ GE343.out | refine below_set ?_ GE349.out | refine below_set ?_ GE360.out) | exact HB.out)⟩
            · rw [if_neg c44] at H
              exact absurd H (by simp)
          · replace c43 := Bool.eq_false_iff.mpr c43
            subst c43
            have H1 : (none) = some r := by rw [if_neg (show ¬ (false = true) by decide)] at H; exact H
            clear H
            have H := H1
            clear H1
            exact absurd H (by simp)
end Go.Proofs.YtaedhehiifkcbaaDoor.PG
namespace Go.Proofs.YtaedhehiifkcbaaDoor.Pl
def hexd (d : Nat) : UInt8 := if d < 10 then UInt8.ofNat (48 + d) else UInt8.ofNat (87 + d)
def optB : Option Nat → Int × Bool
  | some n => ((n : Int), true)
  | none => (0, false)
def optI : Option Nat → Int
  | some d => (d : Int)
  | none => -1
@[simp] theorem optI_some (d : Nat) : optI (some d) = (d : Int) := rfl
@[simp] theorem optI_none : optI none = -1 := rfl
@[simp] theorem optB_some (d : Nat) : optB (some d) = ((d : Int), true) := rfl
@[simp] theorem optB_none : optB none = (0, false) := rfl
def decval : Nat → List UInt8 → Option Nat
  | acc, [] => some acc
  | acc, c :: r => if 48 ≤ c.toNat ∧ c.toNat ≤ 57 then decval (10 * acc + (c.toNat - 48)) r else none
theorem decval_append : ∀ (a b : List UInt8) (acc : Nat), decval acc (a ++ b) = (decval acc a).bind fun x => decval x b
  | [], b, acc => rfl
  | c :: r, b, acc => by
    rw [List.cons_append, decval, decval]
    split
    · exact decval_append r b _
    · rfl
theorem ofNat_digit {d : Nat} (h : d < 10) : (UInt8.ofNat (48 + d)).toNat = 48 + d := by rw [UInt8.toNat_ofNat']; omega
theorem decval_one {d acc : Nat} (h : d < 10) : decval acc [UInt8.ofNat (48 + d)] = some (10 * acc + d) := by
  rw [decval, ofNat_digit h, if_pos (by omega), decval]
  congr 1; omega
theorem decDigits_ge {u : Nat} (h : ¬ u < 10) : Lib.decDigits u = Lib.decDigits (u / 10) ++ [UInt8.ofNat (48 + u % 10)] := by rw [Lib.decDigits, dif_neg h]
theorem decval_dec (u : Nat) : decval 0 (Lib.decDigits u) = some u := by
  induction u using Nat.strongRecOn with
  | _ u ih =>
    by_cases h : u < 10
    · rw [Lib.decDigits_one h, decval_one h]; simp
    · rw [decDigits_ge h, decval_append, ih (u / 10) (by omega), Option.bind_some, decval_one (by omega)]
      congr 1; omega
theorem dec_ne_nil (u : Nat) : Lib.decDigits u ≠ [] := by
  by_cases h : u < 10
  · rw [Lib.decDigits_one h]; simp
  · rw [decDigits_ge h]; simp
theorem dec_length (u : Nat) : ∀ w, 0 < w → u < 10 ^ w → (Lib.decDigits u).length ≤ w := by
  induction u using Nat.strongRecOn with
  | _ u ih =>
    intro w hw hu
    by_cases h : u < 10
    · rw [Lib.decDigits_one h]; simp; omega
    · obtain ⟨w, rfl⟩ : ∃ v, w = v + 1 := ⟨w - 1, by omega⟩
      have hw0 : 0 < w := by
        rcases Nat.eq_zero_or_pos w with rfl | h0
        · simp at hu; omega
        · exact h0
      rw [decDigits_ge h, List.length_append, List.length_singleton]
      have := ih (u / 10) (by omega) w hw0 (by rw [Nat.pow_succ] at hu; omega)
      omega
theorem dec_digit (u : Nat) : ∀ c ∈ Lib.decDigits u, 48 ≤ c.toNat ∧ c.toNat ≤ 57 := by
  induction u using Nat.strongRecOn with
  | _ u ih =>
    intro c hc
    by_cases h : u < 10
    · rw [Lib.decDigits_one h, List.mem_singleton] at hc
      subst hc; rw [ofNat_digit h]; omega
    · rw [decDigits_ge h, List.mem_append, List.mem_singleton] at hc
      rcases hc with hc | hc
      · exact ih (u / 10) (by omega) c hc
      · subst hc; rw [ofNat_digit (by omega)]; omega
theorem parse_eq : ∀ (l : List UInt8) (acc v : Nat), decval acc l = some v → v < 18446744073709551616 → Lib.parseUint10 acc l = .ok v
  | [], acc, v, h, _ => by
    obtain rfl := Option.some.inj h; rfl
  | c :: r, acc, v, h, hv => by
    rw [decval] at h
    split at h
    · rename_i hc
      have hle : ∀ (l : List UInt8) (a v : Nat), decval a l = some v → a ≤ v := by
        intro l
        induction l with
        | nil => intro a v h; have := Option.some.inj h; omega
        | cons x t ih =>
          intro a v h
          rw [decval] at h
          split at h
          · have := ih _ _ h; omega
          · cases h
      have h1 := hle _ _ _ h
      rw [Lib.parseUint10, if_pos hc, if_neg (by omega), if_neg (by omega), Nat.mul_comm acc 10]
      exact parse_eq r _ v h hv
    · cases h
theorem atoi_dec (u : Nat) (h : u < 9223372036854775808) : Lib.atoiAll (Lib.decDigits u) = .ok (u : Int) := by
  cases hl : Lib.decDigits u with
  | nil => exact absurd hl (dec_ne_nil u)
  | cons c r =>
    have hc := dec_digit u c (by rw [hl]; simp)
    have hp : Lib.parseMag (c :: r) = .ok u := by
      unfold Lib.parseMag
      rw [if_neg (by simp)]
      exact parse_eq _ _ _ (by rw [← hl]; exact decval_dec u) (by omega)
    unfold Lib.atoiAll
    simp only
    rw [if_neg (by omega), hp]
    simp only
    rw [if_neg (by omega), if_neg (by omega), if_neg (by omega)]
def decB (n : Int) : ByteArray := if n < 0 then ⟨#[]⟩ else if n > 1099511627776 then ⟨#[]⟩ else ⟨(Lib.decDigits n.toNat).toArray⟩
def undecB (s : ByteArray) : Int × Bool := match decval 0 s.data.toList with
  | some v => if v ≤ 1099511627776 ∧ Lib.decDigits v = s.data.toList then ((v : Int), true) else (0, false)
  | none => (0, false)
theorem undecB_some {s : ByteArray} {u : Nat} (hu : u ≤ 1099511627776) (h : s.data.toList = Lib.decDigits u) : undecB s = ((u : Int), true) := by
  unfold undecB
  rw [h, decval_dec]
  show (if _ then _ else _) = _
  rw [if_pos ⟨hu, rfl⟩]
theorem undecB_none {s : ByteArray} (h : ∀ u : Nat, u ≤ 1099511627776 → s.data.toList ≠ Lib.decDigits u) : undecB s = (0, false) := by
  unfold undecB
  cases decval 0 s.data.toList with
  | none => rfl
  | some v =>
    show (if _ then _ else _) = _
    rw [if_neg]
    rintro ⟨h1, h2⟩
    exact h v h1 h2.symm
end Go.Proofs.YtaedhehiifkcbaaDoor.Pl
namespace Go.Proofs.YtaedhehiifkcbaaDoor.PG
open Go.RowKit Go.Proofs.YtaedhehiifkcbaaDoorW.PrintWords Go.Proofs.YtaedhehiifkcbaaDoorW.PrintLast Go.Proofs.YtaedhehiifkcbaaDoorW.PrintMore Go.Proofs.YtaedhehiifkcbaaDoor.Pl
theorem w64 {x : Int} (h0 : -9223372036854775808 ≤ x) (h1 : x ≤ 9223372036854775807) : wrap64 x = x := by unfold wrap64; omega
theorem refdigit_val (d : Nat) (hd : d < 16) : afterglowref02_digit.f (d : Int) = some ⟨#[hexd d]⟩ := by
  unfold afterglowref02_digit.f hexd strOfNums
  by_cases h : d < 10
  · rw [if_pos (by omega), if_pos h, w64 (by omega) (by omega)]
    simp only [List.map_cons, List.map_nil]
    rw [show ((48 + (d : Int)) % 256).toNat = 48 + d by omega]
  · rw [if_neg (by omega), if_neg h, w64 (by omega) (by omega)]
    simp only [List.map_cons, List.map_nil]
    rw [show ((87 + (d : Int)) % 256).toNat = 87 + d by omega]
theorem one_append (c : UInt8) (l : List UInt8) : (⟨#[c]⟩ : ByteArray) ++ ⟨l.toArray⟩ = ⟨(c :: l).toArray⟩ := by
  apply ByteArray.ext
  simp [ByteArray.data_append]
end Go.Proofs.YtaedhehiifkcbaaDoor.PG
namespace Go.Proofs.YtaedhehiifkcbaaDoor.PG
open Go.RowKit Go.Proofs.YtaedhehiifkcbaaDoorW.PrintWords Go.Proofs.YtaedhehiifkcbaaDoorW.PrintLast Go.Proofs.YtaedhehiifkcbaaDoorW.PrintMore Go.Proofs.YtaedhehiifkcbaaDoor.Pl
theorem ba_ext {a b : ByteArray} (h : a.data.toList = b.data.toList) : a = b := by
  cases a; cases b
  simpa using h
theorem Dec_val (n : Int) : digits_Dec.f n = some (decB n) := by
  unfold digits_Dec.f decB strconv_Itoa.f
  by_cases h1 : n < 0
  · rw [if_pos h1, if_pos h1]
  rw [if_neg h1, if_neg h1]
  by_cases h2 : n > 1099511627776
  · rw [if_pos h2, if_pos h2]
  rw [if_neg h2, if_neg h2, if_pos (by omega), Option.bind_some]
  unfold Lib.itoa
  rw [if_neg h1]
theorem decB_nat {u : Nat} (h : u ≤ 1099511627776) : decB (u : Int) = ⟨(Lib.decDigits u).toArray⟩ := by
  unfold decB
  rw [if_neg (by omega), if_neg (by omega), Int.toNat_natCast]
theorem decB_none {n : Int} (h : n < 0 ∨ 1099511627776 < n) : decB n = ⟨#[]⟩ := by
  unfold decB
  by_cases h1 : n < 0
  · rw [if_pos h1]
  · rw [if_neg h1, if_pos (by omega)]
theorem Undec_val (s : ByteArray) (hs : s.size ≤ 140737488351232) : digits_Undec.f s = some (undecB s) := by
  unfold digits_Undec.f
  rw [if_pos hs]
  by_cases hx : ∃ u : Nat, u ≤ 1099511627776 ∧ s.data.toList = Lib.decDigits u
  · obtain ⟨u, hu, e⟩ := hx
    rw [undecB_some hu e, e, atoi_dec u (by omega)]
    show (digits_Dec.f (u : Int)).bind _ = _
    rw [Dec_val, Option.bind_some, decB_nat hu, if_pos]
    exact ba_ext (by simp [e])
  · rw [undecB_none (fun u hu e => hx ⟨u, hu, e⟩)]
    rcases hv : Lib.atoiAll s.data.toList with v | _ | _
    rotate_left
    · rfl
    · rfl
    · show (digits_Dec.f v).bind _ = _
      rw [Dec_val, Option.bind_some, if_neg]
      intro e
      by_cases hr : v < 0 ∨ 1099511627776 < v
      · rw [decB_none hr] at e
        rw [← e] at hv
        simp [Lib.atoiAll] at hv
      · obtain ⟨u, rfl⟩ := Int.eq_ofNat_of_zero_le (show 0 ≤ v by omega)
        rw [decB_nat (by omega)] at e
        exact hx ⟨u, by omega, by rw [← e]⟩
theorem hexd_dec {d : Nat} (h : d < 10) : hexd d = UInt8.ofNat (48 + d) := by unfold hexd; rw [if_pos h]
theorem refdec_loop : ∀ (d n : Nat) (k : Nat) (l : List UInt8), 0 < n → n < 10 ^ d → n < 9223372036854775808 → l.length + d ≤ 100 → d < k →
    afterglowref02_Dec.l0 k (n : Int) ⟨l.toArray⟩ = some ⟨(Lib.decDigits n ++ l).toArray⟩ := by
  intro d
  induction d with
  | zero => intro n k l h0 h1 _ _ _; simp at h1; omega
  | succ d ih =>
    intro n k l h0 h1 h2 hl hk
    obtain ⟨k, rfl⟩ : ∃ m, k = m + 1 := ⟨k - 1, by omega⟩
    simp only [afterglowref02_Dec.l0]
    rw [if_pos (by omega), show Int.tmod (n : Int) 10 = ((n % 10 : Nat) : Int) from by rw [Int.tmod_eq_emod_of_nonneg (by omega)]; omega, refdigit_val _ (by omega), Option.bind_some,
      if_pos (by simp [ByteArray.size]; omega), one_append,
      show wrap64 (Int.tdiv (n : Int) 10) = ((n / 10 : Nat) : Int) from by rw [Int.tdiv_eq_ediv_of_nonneg (by omega), w64 (by omega) (by omega)]; omega]
    by_cases h : n < 10
    · obtain ⟨k, rfl⟩ : ∃ m, k = m + 1 := ⟨k - 1, by omega⟩
      simp only [afterglowref02_Dec.l0]
      rw [if_neg (by omega), Lib.decDigits_one h, hexd_dec (by omega), show n % 10 = n by omega]
      rfl
    · rw [ih (n / 10) k _ (by omega) (by rw [Nat.pow_succ] at h1; omega) (by omega) (by simp; omega) (by omega), decDigits_ge h, hexd_dec (by omega), List.append_assoc]
      rfl
theorem refDec_val (n : Int) (k : Nat) (hk : 20 ≤ k) : afterglowref02_Dec.f k n = some (decB n) := by
  obtain ⟨k, rfl⟩ : ∃ m, k = m + 1 := ⟨k - 1, by omega⟩
  unfold afterglowref02_Dec.f
  by_cases h1 : n < 0
  · rw [if_pos h1, decB_none (.inl h1)]; rfl
  rw [if_neg h1]
  by_cases h2 : n > 1099511627776
  · rw [decide_eq_true h2, decB_none (.inr h2)]; rfl
  rw [decide_eq_false h2]
  simp only [afterglowref02_Dec.j0]
  rw [if_neg (by simp)]
  obtain ⟨u, rfl⟩ := Int.eq_ofNat_of_zero_le (show 0 ≤ n by omega)
  rw [decB_nat (by omega)]
  by_cases h3 : u = 0
  · subst h3; rw [if_pos (by simp), Lib.decDigits_one (by omega)]; rfl
  · rw [if_neg (by omega), refdec_loop 14 u k [] (by omega) (by omega) (by omega) (by simp) (by omega), List.append_nil]
theorem refundec_loop (s : ByteArray) (hs1 : 1 ≤ s.size) (hs : s.size ≤ 13) (d : Nat) : ∀ (k i acc : Nat), i + d = s.size → d + 21 < k → acc < 10 ^ i →
    afterglowref02_Undec.l0 k s (acc : Int) (i : Int) = some (match decval acc (s.data.toList.drop i) with
      | some v => if v ≤ 1099511627776 ∧ Lib.decDigits v = s.data.toList then ((v : Int), true) else (0, false)
      | none => (0, false)) := by
  have hlen := size_len s
  induction d with
  | zero =>
    intro k i acc hi hk ha
    obtain ⟨k, rfl⟩ : ∃ m, k = m + 1 := ⟨k - 1, by omega⟩
    simp only [afterglowref02_Undec.l0]
    rw [if_neg (by omega), List.drop_of_length_le (by omega), refDec_val _ k (by omega), Option.bind_some, Lib.toList_data, Lib.toList_data]
    simp only [decval]
    by_cases hv : acc ≤ 1099511627776
    · rw [decB_nat hv]
      by_cases he : Lib.decDigits acc = s.data.toList
      · rw [if_pos (by simpa using he), if_pos ⟨hv, he⟩]
      · rw [if_neg (by simpa using he), if_neg (fun h => he h.2)]
    · rw [decB_none (.inr (by omega)), if_neg, if_neg (fun h => hv h.1)]
      intro e
      have : s.data.toList.length = 0 := by rw [← e]; rfl
      omega
  | succ d ih =>
    intro k i acc hi hk ha
    obtain ⟨k, rfl⟩ : ∃ m, k = m + 1 := ⟨k - 1, by omega⟩
    have hil : i < s.data.toList.length := by omega
    have hp : 10 ^ i ≤ 10 ^ 12 := Nat.pow_le_pow_right (by omega) (by omega)
    have hp' : (10 : Nat) ^ 12 = 1000000000000 := by decide
    have hc := (s.data.toList[i]'hil).toNat_lt
    simp only [afterglowref02_Undec.l0]
    rw [if_pos (by omega), if_pos (by omega), bt_nat s i hil, List.drop_eq_getElem_cons hil]
    simp only [decval]
    by_cases h1 : (s.data.toList[i]'hil).toNat < 48
    · rw [if_pos (by omega), if_neg (by omega)]
    rw [if_neg (by omega)]
    by_cases h2 : (s.data.toList[i]'hil).toNat > 57
    · rw [if_pos (by omega), if_neg (by omega)]
    rw [if_neg (by omega), if_pos (by omega), wrap_nat i (by omega)]
    generalize (s.data.toList[i]'hil).toNat = c at *
    rw [show wrap64 (wrap64 (wrap64 (10 * (acc : Int)) + wrap64 (c : Int)) - 48) = ((10 * acc + (c - 48) : Nat) : Int) from by
      rw [w64 (x := 10 * (acc : Int)) (by omega) (by omega), w64 (x := (c : Int)) (by omega) (by omega), w64 (x := 10 * (acc : Int) + (c : Int)) (by omega) (by omega), w64 (by omega) (by omega)]; omega]
    exact ih k (i + 1) _ (by omega) (by omega) (by rw [Nat.pow_succ]; omega)
theorem refUndec_val (s : ByteArray) (k : Nat) (hk : 40 ≤ k) : afterglowref02_Undec.f k s = some (undecB s) := by
  obtain ⟨k, rfl⟩ : ∃ m, k = m + 1 := ⟨k - 1, by omega⟩
  have hlen := size_len s
  unfold afterglowref02_Undec.f
  by_cases h1 : (s.size : Int) < 1
  · rw [if_pos h1, undecB_none]
    · rfl
    · intro u _ e
      have : (Lib.decDigits u).length = 0 := by rw [← e]; omega
      exact dec_ne_nil u (List.eq_nil_of_length_eq_zero this)
  rw [if_neg h1]
  by_cases h2 : (s.size : Int) > 13
  · rw [decide_eq_true h2, undecB_none]
    · rfl
    · intro u hu e
      have := dec_length u 13 (by omega) (by omega)
      rw [← e] at this
      omega
  · rw [decide_eq_false h2]
    simp only [afterglowref02_Undec.j0]
    rw [if_neg (by simp)]
    have e := refundec_loop s (by omega) (by omega) s.size k 0 0 (by omega) (by omega) (by simp)
    rw [List.drop_zero] at e
    exact e
end Go.Proofs.YtaedhehiifkcbaaDoor.PG
namespace Go.Proofs.YtaedhehiifkcbaaDoor.Pl
def splitC (c : UInt8) : List UInt8 → List (List UInt8)
  | [] => [[]]
  | b :: r => if b = c then [] :: splitC c r else match splitC c r with
    | [] => [[b]]
    | w :: ws => (b :: w) :: ws
theorem splitC_ne (c : UInt8) : ∀ l, splitC c l ≠ []
  | [] => by simp [splitC]
  | b :: r => by
    rw [splitC]
    split
    · simp
    · split <;> simp
theorem splitC_sep (c : UInt8) (r : List UInt8) : splitC c (c :: r) = [] :: splitC c r := by rw [splitC, if_pos rfl]
theorem splitC_other {c b : UInt8} (h : b ≠ c) {r : List UInt8} {w : List UInt8} {ws : List (List UInt8)} (e : splitC c r = w :: ws) : splitC c (b :: r) = (b :: w) :: ws := by
  rw [splitC, if_neg h, e]
theorem join_single (x s : List UInt8) : Lib.join [x] s = x := by simp [Lib.join, List.intercalate]
theorem join_cons (x : List UInt8) (s y : List UInt8) (ys : List (List UInt8)) : Lib.join (x :: y :: ys) s = x ++ (s ++ Lib.join (y :: ys) s) := by
  simp [Lib.join, List.intercalate]
theorem join_head (b : UInt8) (w s : List UInt8) (ws : List (List UInt8)) : Lib.join ((b :: w) :: ws) s = b :: Lib.join (w :: ws) s := by
  cases ws with
  | nil => rw [join_single, join_single]
  | cons y ys => rw [join_cons, join_cons]; rfl
theorem join_splitC (c : UInt8) : ∀ l, Lib.join (splitC c l) [c] = l
  | [] => by rw [splitC, join_single]
  | b :: r => by
    have ih := join_splitC c r
    cases hs : splitC c r with
    | nil => exact absurd hs (splitC_ne c r)
    | cons w ws =>
      rw [hs] at ih
      by_cases h : b = c
      · subst h
        rw [splitC_sep, hs, join_cons, ih]; rfl
      · rw [splitC_other h hs, join_head, ih]
theorem splitC_none {c : UInt8} : ∀ {w : List UInt8}, c ∉ w → splitC c w = [w]
  | [], _ => rfl
  | b :: r, h => by
    simp only [List.mem_cons, not_or] at h
    exact splitC_other (fun e => h.1 e.symm) (splitC_none h.2)
theorem splitC_append {c : UInt8} : ∀ {w : List UInt8} (r : List UInt8), c ∉ w → splitC c (w ++ c :: r) = w :: splitC c r
  | [], r, _ => splitC_sep c r
  | b :: w, r, h => by
    simp only [List.mem_cons, not_or] at h
    rw [List.cons_append]
    exact splitC_other (fun e => h.1 e.symm) (splitC_append r h.2)
theorem splitC_join {c : UInt8} : ∀ {l : List (List UInt8)}, l ≠ [] → (∀ w ∈ l, c ∉ w) → splitC c (Lib.join l [c]) = l
  | [], h, _ => absurd rfl h
  | [w], _, h => by rw [join_single, splitC_none (h w (by simp))]
  | w :: v :: vs, _, h => by
    rw [join_cons]
    show splitC c (w ++ c :: Lib.join (v :: vs) [c]) = _
    rw [splitC_append _ (h w (by simp)), splitC_join (by simp) (fun x hx => h x (by simp [hx]))]
theorem splitC_piece (c : UInt8) (l : List UInt8) (w : List UInt8) (h : w ∈ splitC c l) : w.length ≤ l.length := by
  have e := join_splitC c l
  rw [← e]
  generalize splitC c l = xs at h
  clear e
  induction xs with
  | nil => cases h
  | cons x t ih =>
    cases t with
    | nil =>
      rw [join_single]
      simp only [List.mem_singleton] at h
      rw [h]; exact Nat.le_refl _
    | cons y ys =>
      rw [join_cons, List.length_append, List.length_append]
      rcases List.mem_cons.1 h with rfl | h
      · omega
      · have := ih h
        omega
theorem indexByte_first (c : UInt8) : ∀ (w r : List UInt8), c ∉ w → Lib.indexByte (w ++ c :: r) c = (w.length : Int)
  | [], r, _ => by
    rw [List.nil_append, Lib.indexByte, if_pos (by simp)]; rfl
  | b :: w, r, h => by
    simp only [List.mem_cons, not_or] at h
    rw [List.cons_append, Lib.indexByte, if_neg (by simpa using fun e => h.1 e.symm), indexByte_first c w r h.2, if_neg (by simp)]
    simp
theorem splitK_C (c : UInt8) : ∀ (k : Nat) (l : List UInt8), l.count c = k → Lib.splitK [c] 0 k l = splitC c l := by
  intro k
  induction k with
  | zero =>
    intro l h
    rw [Lib.splitK, splitC_none (List.count_eq_zero.1 h)]
  | succ k ih =>
    intro l h
    have hm : c ∈ l := List.count_pos_iff.1 (by omega)
    obtain ⟨w, r, rfl, hw⟩ := List.eq_append_cons_of_mem hm
    have hc : r.count c = k := by
      rw [List.count_append, List.count_cons_self, List.count_eq_zero.2 hw] at h
      omega
    have hi : Lib.index (w ++ c :: r) [c] = (w.length : Int) := by rw [Lib.index_one, indexByte_first c w r hw]
    rw [Lib.splitK, hi, if_neg (by simp), splitC_append r hw, Int.toNat_natCast, Nat.add_zero, List.take_left, List.length_singleton, List.drop_append, List.drop_of_length_le (by omega), show w.length + 1 - w.length = 1 by omega]
    congr 1
    exact ih r hc
theorem splitB_C (c : UInt8) (s : ByteArray) : (Lib.splitB ⟨#[c]⟩ 0 (Lib.countB s ⟨#[c]⟩) s).map (·.data.toList) = splitC c s.data.toList := by
  rw [Lib.splitB_data]
  refine splitK_C c _ _ ?_
  show _ = Lib.count s.data.toList [c]
  rw [Lib.count_one]
end Go.Proofs.YtaedhehiifkcbaaDoor.Pl
namespace Go.Proofs.YtaedhehiifkcbaaDoor.PG
open Go.RowKit Go.Proofs.YtaedhehiifkcbaaDoorW.PrintWords Go.Proofs.YtaedhehiifkcbaaDoorW.PrintLast Go.Proofs.YtaedhehiifkcbaaDoorW.PrintMore Go.Proofs.YtaedhehiifkcbaaDoor.Pl
abbrev ofL (l : List UInt8) : ByteArray := ⟨l.toArray⟩
theorem ofL_data (s : ByteArray) : ofL s.data.toList = s := ba_ext (by simp)
theorem map_ofL (l : List ByteArray) : (l.map (·.data.toList)).map ofL = l := by
  rw [List.map_map]
  conv => rhs; rw [← List.map_id l]
  exact List.map_congr_left (fun s _ => ofL_data s)
theorem ofL_size (l : List UInt8) : (ofL l).size = l.length := by simp [ByteArray.size]
theorem ofL_append (a b : List UInt8) : ofL a ++ ofL b = ofL (a ++ b) := by
  apply ByteArray.ext
  simp [ByteArray.data_append]
theorem rdOf_nat {α : Type} (z : α) (l : List α) (i : Nat) (h : i < l.length) : rdOf z l (i : Int) = l[i] := by
  unfold rdOf
  rw [Int.toNat_natCast, List.getD_eq_getElem?_getD, List.getElem?_eq_getElem h]; rfl
theorem toList_eq {a b : ByteArray} : a.toList = b.toList ↔ a = b := by
  rw [Lib.toList_data, Lib.toList_data]
  exact ⟨fun h => ba_ext h, fun h => by rw [h]⟩
theorem extract_one (s : ByteArray) (i : Nat) (h : i < s.data.toList.length) : s.extract i (i + 1) = ofL [s.data.toList[i]'h] := by
  apply ba_ext
  rw [ByteArray.data_extract]
  rw [Array.toList_extract, List.extract_eq_take_drop, Nat.add_sub_cancel_left, List.drop_eq_getElem_cons h]
  rfl
end Go.Proofs.YtaedhehiifkcbaaDoor.PG
namespace Go.Proofs.YtaedhehiifkcbaaDoor.PG
open Go.RowKit Go.Proofs.YtaedhehiifkcbaaDoorW.PrintWords Go.Proofs.YtaedhehiifkcbaaDoorW.PrintLast Go.Proofs.YtaedhehiifkcbaaDoorW.PrintMore Go.Proofs.YtaedhehiifkcbaaDoor.Pl
theorem bne_self (b : Bool) : (b != b) = false := by cases b <;> rfl
theorem undecB_back {s : ByteArray} {m : Int} (h : undecB s = (m, true)) : decB m = s ∧ 0 ≤ m ∧ m ≤ 1099511627776 := by
  unfold undecB at h
  split at h
  · split at h
    · rename_i v _ hv
      obtain ⟨rfl, _⟩ := Prod.mk.inj h
      rw [decB_nat hv.1, hv.2]
      exact ⟨ofL_data s, by omega, by omega⟩
    · cases h
  · cases h
theorem undecB_dec {u : Nat} (h : u ≤ 1099511627776) : undecB (decB (u : Int)) = ((u : Int), true) := by
  rw [decB_nat h]
  exact undecB_some h rfl
theorem undecB_empty : undecB ⟨#[]⟩ = (0, false) := by
  refine undecB_none fun u _ e => ?_
  exact dec_ne_nil u (by simpa using e.symm)
theorem decB_cases (n : Int) : (decB n = ⟨#[]⟩ ∧ (n < 0 ∨ 1099511627776 < n)) ∨ ∃ u : Nat, n = u ∧ u ≤ 1099511627776 ∧ decB n = ofL (Lib.decDigits u) := by
  by_cases h : n < 0 ∨ 1099511627776 < n
  · exact .inl ⟨decB_none h, h⟩
  · obtain ⟨u, rfl⟩ := Int.eq_ofNat_of_zero_le (show 0 ≤ n by omega)
    exact .inr ⟨u, rfl, by omega, decB_nat (by omega)⟩
theorem decB_size (n : Int) : (decB n).size ≤ 13 := by
  rcases decB_cases n with ⟨e, _⟩ | ⟨u, _, hu, e⟩
  · rw [e]; decide
  · rw [e, ofL_size]
    exact dec_length u 13 (by omega) (by omega)
end Go.Proofs.YtaedhehiifkcbaaDoor.PG
