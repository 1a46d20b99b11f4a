/- The law PageKeys of the given program: for every input it returns true, and its arguments read as before. The tables and sentinels of Go's library that it reads are listed by its row and tied by the given card. -/
import Derived.Test.YtaedhehiifkcbaaDoorCards
import Derived.Test.YtaedhehiifkcbaaDoorTie
import Derived.WalkKit
import Derived.ProofKit
import Derived.OpenShut
import Derived.ShutString
import Derived.ChangeOld
import Derived.Below
import Derived.SizedLaws
import Derived.Deep.DeepHandedRow
import Derived.Lib.LaidTab
import Derived.Lay
import Derived.Stop.LaidErr
import Derived.Stop.Joined
import Derived.SliceStrings
import Derived.Lib.SmallJoins
import Derived.LaidMore
import Derived.Test.YtaedhehiifkcbaaDoorSPageKeys5
namespace Go.Proofs.YtaedhehiifkcbaaDoor.pageKeys
open Go.ChangeShapes Go.WideShapes Go.ChangeAt Go.RowKit Go.Proofs.YtaedhehiifkcbaaDoor.PG Go.Proofs.YtaedhehiifkcbaaDoorW.PrintWords Go.Proofs.YtaedhehiifkcbaaDoorW.PrintLast Go.Proofs.YtaedhehiifkcbaaDoorW.PrintMore
open Go.ChangeMaps (open_string shut_string)
set_option linter.unusedVariables false
set_option linter.unusedSimpArgs false
theorem own : ownKnob Tryd.prog.godebug = none := by kernel_rfl
theorem laidOut : laidOutB Tryd.prog = true := by kernel_rfl
theorem star : "*" ++ "errors.errorString" = "*errors.errorString" := by decide
theorem rowE (u : TypeId) (h : Tryd.prog.typeName? 3 u = some "*errors.errorString") : u = 146 :=
  typeName_ptr_named (nm := "errors.errorString") (by rw [star]; kernel_rfl) (by kernel_rfl) (by decide) u (by rw [star]; exact h)
theorem cE : Tryd.prog.cellsOf 148 = 1 := by kernel_rfl
theorem cS : Tryd.prog.cellsOf 9 = 1 := by kernel_rfl
theorem good {W : World} (hL0 : laidMetH Tryd.prog Rows.pageKeysRow.laid W) (hS : W.ShapedOpen Tryd.prog) : Good W := by
  have hL : laidMet Tryd.prog Rows.pageKeysRow.laid W := by rw [MakeChecks.laidMetH_plain _ _ _ (by kernel_rfl)] at hL0; exact hL0
  refine ⟨?_, Tryd.laysM146.s1_3 W hS, ?_, ?_⟩
  · exact Lib.tabIs_of_head (g := 3) (by kernel_rfl) (by kernel_rfl) Tryd.underlying141 Tryd.underlying122 (by kernel_rfl) (by kernel_rfl) (hL.tail.tail)
  · obtain ⟨a, s, hv, _⟩ := laid_sentinel (hL.tail.tail.tail.tail.tail) (g := 1) (by kernel_rfl) (by kernel_rfl) Tryd.underlying79 rowE Tryd.underlying146 Tryd.underlying148 rfl rfl Tryd.underlying9 cE cS
    exact ⟨_, _, hv⟩
  · obtain ⟨a, s, hv, _⟩ := laid_sentinel (hL.tail.tail.tail.tail) (g := 2) (by kernel_rfl) (by kernel_rfl) Tryd.underlying79 rowE Tryd.underlying146 Tryd.underlying148 rfl rfl Tryd.underlying9 cE cS
    exact ⟨_, _, hv⟩
abbrev Q39 (x : S39) : Prop := (Lit.int .i64 x.f0).wf = true ∧ (Lit.int .i64 x.f1).wf = true ∧ (Lit.int .i64 x.f2).wf = true ∧ (Lit.int .i64 x.f3).wf = true
theorem dec_39 {H : Type} {enc : TypeId × Value → H} {W : World} (n : Nat) (cs : List Value) (y : DataW H × List MemPlace) (h : DataW.trod enc Tryd.prog W 0 (fun _ => true) true n 39 cs = some y) : ∃ x : S39, k39.K W x cs ∧ Q39 x := by
  have hl : cs.length = 4 := (struct_fields Tryd.underlying39 h).1.trans (by kernel_rfl)
  match cs, hl with
  | [c0, c1, c2, c3], _ =>
    obtain ⟨m0_, f0_⟩ := struct_at Tryd.underlying39 h
    obtain ⟨yg0_0, g0_0⟩ := f0_ 0 3 0 1 rfl (by kernel_rfl)
    simp only [List.drop_succ_cons, List.drop_zero, List.take_succ_cons, List.take_zero, List.take_nil] at g0_0
    obtain ⟨a0, e0_, _, w0⟩ := DataW.trod_int Tryd.underlying3 g0_0
    obtain rfl : c0 = .int .i64 a0 := by simpa using e0_
    obtain ⟨yg0_1, g0_1⟩ := f0_ 1 3 1 1 rfl (by kernel_rfl)
    simp only [List.drop_succ_cons, List.drop_zero, List.take_succ_cons, List.take_zero, List.take_nil] at g0_1
    obtain ⟨a1, e1_, _, w1⟩ := DataW.trod_int Tryd.underlying3 g0_1
    obtain rfl : c1 = .int .i64 a1 := by simpa using e1_
    obtain ⟨yg0_2, g0_2⟩ := f0_ 2 3 2 1 rfl (by kernel_rfl)
    simp only [List.drop_succ_cons, List.drop_zero, List.take_succ_cons, List.take_zero, List.take_nil] at g0_2
    obtain ⟨a2, e2_, _, w2⟩ := DataW.trod_int Tryd.underlying3 g0_2
    obtain rfl : c2 = .int .i64 a2 := by simpa using e2_
    obtain ⟨yg0_3, g0_3⟩ := f0_ 3 3 3 1 rfl (by kernel_rfl)
    simp only [List.drop_succ_cons, List.drop_zero, List.take_succ_cons, List.take_zero, List.take_nil] at g0_3
    obtain ⟨a3, e3_, _, w3⟩ := DataW.trod_int Tryd.underlying3 g0_3
    obtain rfl : c3 = .int .i64 a3 := by simpa using e3_
    exact ⟨(⟨a0, a1, a2, a3⟩ : S39), k39_mk W (⟨a0, a1, a2, a3⟩ : S39), w0, w1, w2, w3⟩
instance : Inhabited S39 := ⟨z39⟩
set_option maxRecDepth 100000 in
theorem contract (H : Type) (enc : TypeId × Value → H) (W : World) (base : Nat) (args : Array Value) (ds gs : List (DataW H)) (before : List MemPlace)
    (hval0 : ∀ (j : Nat) t v, Tryd.f9.params[j]? = some t → args[j]? = some v → Value.okWide Tryd.prog W .any base t v)
    (hW : DataW.Whole enc Tryd.prog Tryd.f9.params.toList Rows.pageKeysSpec.vars false W args.toList ds gs before)
    (hsz0 : (DataW.weightsEach Tryd.prog (Tryd.f9.params.toList ++ (OpenSpec.ofChange Rows.pageKeysSpec).bare.plain.varTypes Tryd.prog) (ds ++ gs)).all (· ≤ reachBytes) = true)
    (hgood : Good W)
    : Calls Tryd.prog 9 args W fun e W' => ∃ v, e = .returned v ∧ Rows.pageKeysSpec.post enc Tryd.prog Tryd.f9 false true false false W args v W' := by
  have hval := hval0
  have hsz := hsz0
  have hW' := hW
  obtain ⟨p, q, hA0, hV, rfl, hfz, hnd⟩ := hW
  have hA : DataW.TrodAll enc Tryd.prog W 0 (fun _ => true) true Tryd.f9.params.toList args.toList ds p := hA0
  rw [Tryd.params9] at hA hval hsz
  obtain ⟨v0, vs0, d0, ds0, p0, q0, hargs, rfl, rfl, h0, r0⟩ := trodAll_cons hA
  obtain ⟨v1, vs1, d1, ds1, p1, q1, rfl, rfl, rfl, h1, r1⟩ := trodAll_cons r0
  obtain ⟨rfl, rfl, rfl⟩ := trodAll_nil r1
  obtain rfl : args = #[v0, v1] := by cases args; simp_all
  obtain ⟨rfl, rfl⟩ := trodVars_none hV
  have k0 := h0
  have lt0 : ∀ x ∈ p0, x.block < W.heap.size := by obtain ⟨m, hm⟩ := k0; exact DataW.trod_lt m _ _ _ hm
  obtain ⟨cs0, rfl, sz0⟩ := okWide_struct Tryd.underlying39 (hval 0 39 v0 rfl rfl)
  obtain ⟨x0, K0, q0⟩ : ∃ x, k39.K W x cs0.toList ∧ Q39 x := by obtain ⟨m, hm⟩ := h0; exact dec_39 m _ _ hm
  have K0 := k39_open K0
  obtain rfl : cs0 = #[.int .i64 x0.f0, .int .i64 x0.f1, .int .i64 x0.f2, .int .i64 x0.f3] := by apply Array.ext'; exact K0
  obtain ⟨q0_0, q0_1, q0_2, q0_3⟩ := q0
  have k1 := h1
  have lt1 : ∀ x ∈ p1, x.block < W.heap.size := by obtain ⟨m, hm⟩ := k1; exact DataW.trod_lt m _ _ _ hm
  obtain ⟨a1, rfl, rfl, rfl, y1⟩ := open_string Tryd.underlying9 (hval 1 9 v1 rfl rfl) h1
  have w1 : a1.size ≤ 140737488351232 := by
    have z := sized_string hsz (j := 1) (t := 9) rfl rfl
    rw [Array.length_toList] at z
    exact z
  simp only [List.append_nil] at hW'
  obtain ⟨kk, hk⟩ := pure_PageKeys x0.f0 q0_0 x0.f1 q0_1 x0.f2 q0_2 x0.f3 q0_3 a1 w1
  refine (afterglowlaw14_PageKeys.calls kk x0.f0 x0.f1 x0.f2 x0.f3 a1 true W ⟨hgood⟩  hk).mono fun e W' ⟨he, bel⟩ => ?_
  subst he
  exact ⟨_, rfl, _, _, _, [], _, [], hW', trodAll_mk1 (shut_bool Tryd.underlying4 _), (trodAll_cons_mk (Below.trod laidOut (by kernel_rfl) (of_decide_eq_true (by kernel_rfl)) k0 bel lt0) (trodAll_cons_mk (Below.trod laidOut (by kernel_rfl) (of_decide_eq_true (by kernel_rfl)) k1 bel lt1) trodAll_mk0)), rfl, bel.frame _, fun h => by cases h⟩
noncomputable abbrev w0 (os : Os) : World := World.laidAll Tryd.prog os Rows.pageKeysRow.laid
theorem met (os : Os) : laidMetH Tryd.prog Rows.pageKeysRow.laid ((w0 os).forCall (fun _ _ => 0) ⟨#[], #[.agg #[.int .i64 0, .int .i64 0, .int .i64 0, .int .i64 0], .string ByteArray.empty], []⟩).memory := by
  rw [MakeChecks.laidMetH_plain _ _ _ (by kernel_rfl)]
  exact laidMet_laidAll _ (by kernel_rfl) (by kernel_rfl)
theorem reads (os : Os) {H : Type} (enc : TypeId × Value → H) : ∃ places, DataW.whole enc Tryd.prog ((w0 os).forCall (fun _ _ => 0) ⟨#[], #[.agg #[.int .i64 0, .int .i64 0, .int .i64 0, .int .i64 0], .string ByteArray.empty], []⟩).memory Tryd.f9.params.toList Rows.pageKeysSpec.vars false #[Value.agg #[Value.int .i64 0, Value.int .i64 0, Value.int .i64 0, Value.int .i64 0], Value.string ByteArray.empty].toList 8 = some ([.agg [.lit (.int .i64 0), .lit (.int .i64 0), .lit (.int .i64 0), .lit (.int .i64 0)], .lit (.string [])], [], places) :=
  ⟨[], by kernel_rfl⟩
theorem shaped (os : Os) : ((w0 os).forCall (fun _ _ => 0) ⟨#[], #[.agg #[.int .i64 0, .int .i64 0, .int .i64 0, .int .i64 0], .string ByteArray.empty], []⟩).Shaped Tryd.prog := World.shaped_of_ZipB (by kernel_rfl) (by kernel_rfl)
set_option maxRecDepth 100000 in
theorem lifted (os : Os) (started : os.Started) (H : Type) (enc : TypeId × Value → H) (F : Stop.Interp) :
    ReturnsInHanded {} Tryd.checked os 9 .any ((OpenSpec.ofChange Rows.pageKeysSpec).preRow enc Tryd.prog Tryd.f9 Rows.pageKeysRow.domain false Rows.pageKeysRow.laid) (((OpenSpec.ofChange Rows.pageKeysSpec).at F).post enc Tryd.prog Tryd.f9 false true false false) := by
  obtain ⟨places, hx⟩ := reads os enc
  have hok : Input.okWideB Tryd.prog ((w0 os).forCall (fun _ _ => 0) ⟨#[], #[.agg #[.int .i64 0, .int .i64 0, .int .i64 0, .int .i64 0], .string ByteArray.empty], []⟩) 9 ⟨#[], #[.agg #[.int .i64 0, .int .i64 0, .int .i64 0, .int .i64 0], .string ByteArray.empty], []⟩ = true := by kernel_rfl
  refine returnsInHanded_of_row (C := Tryd.checked) (s := (OpenSpec.ofChange Rows.pageKeysSpec)) own started (by kernel_rfl) Tryd.func9
    ⟨w0 os, fun _ _ => 0, ⟨#[], #[.agg #[.int .i64 0, .int .i64 0, .int .i64 0, .int .i64 0], .string ByteArray.empty], []⟩, World.laidAll_os _ _ _, shaped os, (Input.okWide_of_okWideB (base := 0) hok).1, (Input.okWide_of_okWideB hok).2,
      OpenSpec.preRow_of_cond 8 hx (by kernel_rfl) (fun k hk => by cases hk) (by kernel_rfl) (met os), by simp [Assume.holds]⟩ ?_
  intro W base args ds gs before hval hW _ hcond hsz hL hS _
  exact contract H enc W base args ds gs before hval hW hsz (good hL hS)
theorem said : Rows.PageKeysSaid :=
  OpenClaim.holds_of_cond 9 Tryd.f9 rfl rfl rfl rfl rfl rfl rfl ⟨rfl, rfl, rfl, rfl, rfl⟩ rfl rfl rfl rfl rfl (by kernel_rfl) Tryd.func9 (by kernel_rfl)
    (of_decide_eq_true (by kernel_rfl)) (by unfold Func.isWrapper; first | (rw [if_pos (by decide +kernel)]; kernel_rfl) | (rw [if_neg (by decide +kernel)]; exact ⟨rfl, rfl⟩))
    (fun os started H enc _ F => by rw [OpenClaim.pre_eq_preRow]; exact lifted os started H enc F)
theorem plain (f : FuncId) (fn : Func) (hf : Tryd.pinned.checked.prog.funcNamed "afterglow/afterglowlaw14.PageKeys" = some f) (hfn : Tryd.pinned.checked.prog.funcs[f]? = some fn) :
    true = Tryd.pinned.checked.prog.looks [] ∧ ∀ (j : Nat) t, fn.params[j]? = some t → Tryd.pinned.checked.prog.wantsStandIn t = false := by
  obtain rfl : f = 9 := Option.some.inj ((show Tryd.prog.funcNamed "afterglow/afterglowlaw14.PageKeys" = some 9 by kernel_rfl).symm.trans hf) |>.symm
  obtain rfl : fn = Tryd.f9 := (Option.some.inj (Tryd.func9.symm.trans hfn)).symm
  refine ⟨by kernel_rfl, fun j t ht => ?_⟩
  rw [Tryd.params9] at ht
  have hm : t ∈ [39, 9] := by simpa using Array.mem_of_getElem? ht
  have hall : ([39, 9].all fun u => !Tryd.prog.wantsStandIn u) = true := by kernel_rfl
  exact (show Tryd.prog.wantsStandIn t = false by simpa using List.all_eq_true.1 hall t hm)
theorem card : Rows.PageKeysCardSaid :=
  Claim7.holds_tied_plain_at .later [] _ _ _ _ said (fun _ h => by cases h) (by kernel_rfl) (fun _ h => by cases h) pageKeys_row_tie rfl ⟨rfl, rfl⟩ (by kernel_rfl) rfl plain (by kernel_rfl)
end Go.Proofs.YtaedhehiifkcbaaDoor.pageKeys
namespace Go.Proofs.YtaedhehiifkcbaaDoor
theorem pageKeys_holds : Rows.PageKeysCardSaid := pageKeys.card
end Go.Proofs.YtaedhehiifkcbaaDoor
