import Derived.Test.YtaedhehiifkcbaaDoorSPageKeys1
import Derived.RangeFuncNested
import Derived.RangeFuncBound
import Derived.RangeFuncCalls
import Derived.RangeFuncLeaves
import Derived.RangeFuncBox
import Derived.Shelf.Abstract
import Derived.Shelf.RegionOpen
import Derived.OwnWalkIn
import Derived.TacticsInMore
import Derived.LoopNIn
import Derived.LoopIn
namespace Go.Proofs.YtaedhehiifkcbaaDoor.PG
open Go.RowKit Go.Proofs.YtaedhehiifkcbaaDoorW.PrintWords Go.Proofs.YtaedhehiifkcbaaDoorW.PrintLast Go.Proofs.YtaedhehiifkcbaaDoorW.PrintMore
attribute [local go_sem] max2_int min2_int max_two min_two max_three min_three max_four min_four   -- for this text's walks alone
set_option linter.unusedVariables false
set_option linter.unusedSimpArgs false
theorem page_All.over {P : Program} {α : Type} {gop : Operand} {ps : Array Tmp} {asg bod : Code} {Q : Exit → Act → World → Prop} {a : Act} {w : World} {it : Nat} {lb : Array Value} {N : Nat}
    (hg : a.eval gop = .func (.func it) #[] lb) (hin : ∀ xs W, (callFunc it xs).run P W = .ok (.enter it xs) W) (hps : ps.size = 1)
    (I : List α → World → Prop) (U : α → Value → Nat → World → Prop) (V : List α → α → Value → World → Prop) (Fin : List α → Prop) (a₁ : Value → Act)
    (hIb : ∀ pre W W', I pre W → Below W.heap.size W W' → I pre W')
    (hIp : ∀ pre W o, I pre W → I pre (W.putObj (w.heap.size + 1) o)) (hVp : ∀ pre x v W o, V pre x v W → V pre x v (W.putObj (w.heap.size + 1) o)) (hV : ∀ pre x v W W', I pre W → w.heap.size + 2 ≤ W.heap.size → Below W.heap.size W W' → U x v W.heap.size W' → V pre x v W') (h0 : I [] w)
    (hit : ∀ (l : Nat) (W0 : World) (J : List α → World → Prop), (∀ pre W W', J pre W → Below W.heap.size W W' → J pre W') → (∀ pre W, J pre W → I pre W ∧ w.heap.size + 2 ≤ W.heap.size) →
      (∀ pre x v Wb W, J pre Wb → Below Wb.heap.size Wb W → U x v Wb.heap.size W → pre.length < N → YieldAt Fence.wide 1 P l #[v] W fun e W' => e = .returned (.bool true) ∧ J (pre ++ [x]) W') → J [] W0 →
      CallsIn Fence.wide 2 P it (#[.func (.yield l) #[] #[]] ++ lb) W0 fun e W' => (∃ v, e = .returned v) ∧ ∃ xs, Fin xs ∧ J xs W')
    (hasg : ∀ (l : Nat) (v : Value) (W : World) (K : Act → World → Prop), K (a₁ v) W → asg.wpIn (Fence.wide.inRound l) 1 P (Exit.then K (fun _ _ _ => False)) { tmps := (ps.zip #[v]).foldl (fun t (p, u) => t.setIfInBounds p u) a.tmps, defers := [] } W)
    (hbod : ∀ (l : Nat) (pre : List α) (x : α) (v : Value) (W : World), I pre W → V pre x v W → w.heap.size + 2 ≤ W.heap.size → pre.length < N →
      bod.wpIn (Fence.wide.inRound l) 1 P (fun ex _ W' => ex = .normal ∧ KeepsOthers W W' ∧ I (pre ++ [x]) W') (a₁ v) W)
    (hdone : ∀ (xs : List α) (W : World), Fin xs → I xs W → W.heap[w.heap.size]? = some (.deferred (some [])) → Q .normal { a with defers := { target := .collected w.heap.size, args := #[] } :: a.defers } W) :
    (Code.rangeFunc gop ps asg bod).wpIn Fence.wide 3 P Q a w := by
  refine wpIn_rangeFunc fun fn hfn => ?_
  obtain ⟨R, hR⟩ : ∃ R : LoopState → Option Code → Obj, ∀ st pe, R st pe = .loop { state := st, pending := pe, fn, tmps := a.tmps, params := ps, assign := asg, body := bod, defers := w.heap.size } := ⟨_, fun _ _ => rfl⟩
  have hD0 : ((w.alloc (.deferred (some []))).alloc (R .ready none)).heap[w.heap.size]? = some (.deferred (some [])) := (Below.heap_alloc _ _ _ (by simp)).trans (World.alloc_heap_new w _)
  have hL0 : ((w.alloc (.deferred (some []))).alloc (R .ready none)).heap[w.heap.size + 1]? = some (R .ready none) := by
    have h := World.alloc_heap_new (w.alloc (.deferred (some []))) (R .ready none); rwa [World.size_alloc] at h
  have hI0 : I [] ((w.alloc (.deferred (some []))).alloc (R .ready none)) := hIb _ _ _ (hIb _ _ _ h0 ((Below.refl _ w).alloc (Nat.le_refl _) _)) ((Below.refl _ _).alloc (Nat.le_refl _) _)
  refine ⟨w.heap.size + 1, [{ target := .collected w.heap.size, args := #[] }], (w.alloc (.deferred (some []))).alloc (R .ready none), { target := .fn (.func it) lb, args := #[.func (.yield (w.heap.size + 1)) #[] #[]] }, (w.alloc (.deferred (some []))).alloc (R .ready none), it,
    #[.func (.yield (w.heap.size + 1)) #[] #[]] ++ lb, (w.alloc (.deferred (some []))).alloc (R .ready none), ?_, ?_, ?_, ?_, fun _ => by omega, ?_⟩
  · rw [hR]; exact run_enterLoop_outer _ _ _ _ _
  · simp only [resolve, hg]
    simp [go_sem]
  · intro f' hf'; exact trivial
  · simp [invoke, go_sem, hin]
  refine (hit (w.heap.size + 1) _ (fun pre W => I pre W ∧ W.heap[w.heap.size + 1]? = some (R .ready none) ∧ W.heap[w.heap.size]? = some (.deferred (some [])))
    (fun pre W W' h hb => ⟨hIb _ _ _ h.1 hb, (hb.block _ (Array.getElem?_eq_some_iff.1 h.2.1).1).trans h.2.1, (hb.block _ (Array.getElem?_eq_some_iff.1 h.2.2).1).trans h.2.2⟩)
    (fun pre W h => ⟨h.1, (Array.getElem?_eq_some_iff.1 h.2.1).1⟩) ?_ ⟨hI0, hL0, hD0⟩).mono ?_
  · rintro pre x v Wb W ⟨hi0, hl0, hd0⟩ hb hu hN
    have hv := hV _ _ _ _ _ hi0 (Array.getElem?_eq_some_iff.1 hl0).1 hb hu
    have hi := hIb _ _ _ hi0 hb
    have hl := (hb.block _ (Array.getElem?_eq_some_iff.1 hl0).1).trans hl0
    have hd := (hb.block _ (Array.getElem?_eq_some_iff.1 hd0).1).trans hd0
    have hlt : w.heap.size + 1 < W.heap.size := (Array.getElem?_eq_some_iff.1 hl).1
    have hl' := hl
    rw [hR] at hl'
    refine ⟨fn, _, asg, bod, run_yield hl' (by simp [hps]), roundIn_of_wpIn hfn (hasg _ v W _ ⟨_, run_beginRound hl' rfl, ?_⟩)⟩
    rw [← hR]
    have hl2 : (W.putObj (w.heap.size + 1) (R .busy none)).heap[w.heap.size + 1]? = some (R .busy none) := World.putObj_heap_same hlt
    have hd2 : (W.putObj (w.heap.size + 1) (R .busy none)).heap[w.heap.size]? = some (.deferred (some [])) := (World.putObj_heap_other (by omega)).trans hd
    refine wpIn_mono (hbod _ pre x v _ (hIp _ _ _ hi) (hVp _ _ _ _ _ hv) (by simp [World.putObj]; omega) hN) ?_
    rintro e a3 W3 ⟨rfl, hk, hi3⟩
    have hl3 : W3.heap[w.heap.size + 1]? = some (R .busy none) := hk.same _ _ hl2 (by rw [hR]; rfl)
    have hd3 := hk.same _ _ hd2 rfl
    have he := run_endRound (P := P) none (by rw [← hR]; exact hl3)
    refine ⟨_, _, he, rfl, hIp _ _ _ hi3, ?_, (World.putObj_heap_other (by omega)).trans hd3⟩
    rw [hR]
    exact World.putObj_heap_same (Array.getElem?_eq_some_iff.1 hl3).1
  · rintro e W2 ⟨⟨u, rfl⟩, xs, hF, hi, hl, hd⟩
    rw [hR] at hl
    exact ⟨none, _, run_endLoop (P := P) hl (by simp), hdone xs _ hF (hIp _ _ _ hi) ((World.putObj_heap_other (by omega)).trans hd)⟩
def page_All.go (l0 : List S44) (a1 : Int) : Nat → ByteArray → Option (List (List S44))
  | 0, _ => none
  | m + 1, c => (page_Of.f (2 * l0.length + 500) l0 c a1).bind fun b => if b.2.2 = 0 then (if b.2.1.toList = [] then some [b.1] else (page_All.go l0 a1 m b.2.1).bind fun t => some (b.1 :: t)) else some []
def page_All.f (l0 : List S44) (a1 : Int) : Option (List (List S44)) := if l0.length ≤ 1099511627776 then page_All.go l0 a1 (l0.length + 2) ⟨#[]⟩ else none
def page_All.left (l0 : List S44) (a1 : Int) : Value → Nat
  | .string c => ((List.range (l0.length + 3)).find? fun m => (page_All.go l0 a1 m c).isSome).getD 0
  | _ => 0
theorem page_All.left_lt {l0 : List S44} {a1 : Int} {m : Nat} {c c' : ByteArray} {p : List S44} {r : List (List S44)} (hm : m + 1 ≤ l0.length + 2)
    (h : page_Of.f (2 * l0.length + 500) l0 c a1 = some (p, c', 0)) (hc : ¬ c'.toList = []) (hr : page_All.go l0 a1 m c' = some r) : page_All.left l0 a1 (.string c') < page_All.left l0 a1 (.string c) := by
  have hstep : ∀ j, page_All.go l0 a1 (j + 1) c = (page_All.go l0 a1 j c').bind fun t => some (p :: t) := fun j => by
    rw [page_All.go, h]
    simp [hc]
  have hs : (page_All.go l0 a1 (m + 1) c).isSome = true := by rw [hstep, hr]; rfl
  show ((List.range (l0.length + 3)).find? fun m => (page_All.go l0 a1 m c').isSome).getD 0 < ((List.range (l0.length + 3)).find? fun m => (page_All.go l0 a1 m c).isSome).getD 0
  cases e : (List.range (l0.length + 3)).find? (fun m => (page_All.go l0 a1 m c).isSome) with
  | none =>
    have := List.find?_eq_none.1 e (m + 1) (by simp; omega)
    exact absurd hs this
  | some i =>
    obtain ⟨hi, hmem, hmin⟩ := List.find?_range_eq_some.1 e
    cases i with
    | zero => simp [page_All.go] at hi
    | succ j =>
      have hj : (page_All.go l0 a1 j c').isSome = true := by
        rw [hstep] at hi
        cases hg : page_All.go l0 a1 j c' with
        | none => rw [hg] at hi; simp at hi
        | some t => rfl
      cases e' : (List.range (l0.length + 3)).find? (fun m => (page_All.go l0 a1 m c').isSome) with
      | none => simp
      | some i' =>
        obtain ⟨hi', _, hmin'⟩ := List.find?_range_eq_some.1 e'
        simp only [Option.getD_some]
        by_cases hlt : j < i'
        · have := hmin' j hlt
          rw [hj] at this
          simp at this
        · omega
set_option maxHeartbeats 2000000 in
set_option maxRecDepth 100000 in
theorem page_All.it (A0 : Option Addr) (c0 : Nat) (l0 : List S44) (a1 : Int) (r : List (List S44)) (w : World) (hG : Aside0 (Good w)) (hr0 : Kd.C k44 w A0 l0.length l0) (hc0 : l0.length ≤ c0) (h : page_All.go l0 a1 (l0.length + 2) ⟨#[]⟩ = some r)
    (l Bl : Nat) (J : List (List S44) → World → Prop) (hJb : ∀ pre W W', J pre W → Below W.heap.size W W' → J pre W')
    (hJ : ∀ pre W, J pre W → Below w.heap.size w W ∧ W.cell? ⟨Bl, 0, none⟩ = some (.slice A0 l0.length c0) ∧ W.cell? ⟨Bl + 1, 0, none⟩ = some (.int .i64 a1))
    (hY : ∀ pre p v Wb W, J pre Wb → Below Wb.heap.size Wb W → Kd.R k44 44 W Wb.heap.size (fun _ => True) v p → pre.length < l0.length + 2 → YieldAt Fence.wide 1 Tryd.prog l #[v] W fun e W' => e = .returned (.bool true) ∧ J (pre ++ [p]) W')
    (W0 : World) (h0 : J [] W0) :
    CallsIn Fence.wide 2 Tryd.prog 82 #[.func (.yield l) #[] #[], .pointer (some ⟨Bl, 0, none⟩), .pointer (some ⟨Bl + 1, 0, none⟩)] W0 fun e W' => (∃ v, e = .returned v) ∧ ∃ xs, xs = r ∧ J xs W' := by
  have H0 := Lib.hid h
  have HG := hG
  have HJb := Lib.hid hJb
  have HJ := Lib.hid hJ
  have HY := Lib.hid hY
  have HC := Lib.hid hr0
  have HL := Aside0.mk hc0
  clear h hJb hJ hY hr0 hc0
  refine callsIn_of_wp Tryd.func82 rfl trivial ?_ rfl
  simp only [Tryd.ntmps82, List.size_toArray, List.length_cons, List.length_nil, Nat.reduceAdd, Nat.reduceSub, Array.replicate_succ, Array.replicate_zero, List.push_toArray, List.append_toArray, List.nil_append, List.cons_append]
  gi_wp2
  gi_loopw [4] (fun p wr => ∃ (pre rest : List (List S44)) (m : Nat) (c : ByteArray), p = .string c ∧ r = pre ++ rest ∧ pre.length + m ≤ l0.length + 2 ∧ page_All.go l0 a1 m c = some rest ∧ J pre wr)
    (fun p _ => page_All.left l0 a1 p)
  case atStart =>
    exact ⟨[], r, l0.length + 2, ⟨#[]⟩, rfl, rfl, by simp, H0.out, h0⟩
  case round =>
    obtain ⟨pre, rest, m, c, rfl, hx, hm, hgo, hJp⟩ := hrel
    cases m with
    | zero => simp [page_All.go] at hgo
    | succ m =>
      rw [page_All.go] at hgo
      obtain ⟨⟨p, c', no⟩, hOf, hgo⟩ := Option.bind_eq_some_iff.1 hgo
      obtain ⟨hbw, hcl, hcn⟩ := HJ.out pre wr hJp
      have HOf := Lib.hid hOf
      have HB := Lib.hid hbw
      have HX := Lib.hid hx
      have HM := Aside0.mk hm
      clear hOf hbw hx hm
      have HJ0 := Lib.hid hJp
      clear hJp
      by_cases hno : no = 0
      · subst hno
        replace hgo : (if c'.toList = [] then some [p] else (page_All.go l0 a1 m c').bind fun t => some (p :: t)) = some rest := hgo
        by_cases hne : c'.toList = []
        · rw [if_pos hne] at hgo
          obtain rfl := Option.some.inj hgo
          have hc' : c' = ⟨#[]⟩ := by
            cases c' with
            | mk d => simpa [ByteArray.toList_eq] using hne
          subst hc'
          clear hne hgo
          gi_wp2_with (first
            | (refine ⟨trivial, ?_⟩; gi_at_call 36; refine (callsIn_wide.2 (page_Of.calls (2 * l0.length + 500) A0 c0 l0 c a1 p ⟨#[]⟩ 0 _ ⟨Good.below HG.out HB.out⟩ (Kd.C_below HC.out HB.out) HL.out HOf.out)).mono ?_; rintro e W1 ⟨vp, rfl, hRp, hb1⟩; obtain ⟨A1, c1, rfl⟩ := Kd.R_slice hRp; obtain ⟨fn, tmps, assign, body, hy, hR⟩ := HY.out pre p _ wr W1 HJ0.out hb1 hRp (by have := HM.out; omega); clear hRp hb1)
            | (refine hR.mono ?_; rintro e W3 ⟨rfl, hJ3⟩))
          refine bodyPost_ret (results_none rfl _ _ _) rfl ?_
          exact ⟨⟨_, rfl⟩, _, HX.out.symm, hJ3⟩
        · rw [if_neg hne] at hgo
          obtain ⟨t, ht, hgo⟩ := Option.bind_eq_some_iff.1 hgo
          obtain rfl := Option.some.inj hgo
          have hc' : c'.toList.isEmpty = false := by simpa using hne
          have hlt := Lib.hid (page_All.left_lt (by have := HM.out; omega) HOf.out hne ht)
          have HT := Lib.hid ht
          clear hne hgo ht
          gi_wp2_with (first
            | (refine ⟨trivial, ?_⟩; gi_at_call 36; refine (callsIn_wide.2 (page_Of.calls (2 * l0.length + 500) A0 c0 l0 c a1 p c' 0 _ ⟨Good.below HG.out HB.out⟩ (Kd.C_below HC.out HB.out) HL.out HOf.out)).mono ?_; rintro e W1 ⟨vp, rfl, hRp, hb1⟩; obtain ⟨A1, c1, rfl⟩ := Kd.R_slice hRp; obtain ⟨fn, tmps, assign, body, hy, hR⟩ := HY.out pre p _ wr W1 HJ0.out hb1 hRp (by have := HM.out; omega); clear hRp hb1)
            | (refine hR.mono ?_; rintro e W3 ⟨rfl, hJ3⟩))
          go_roundw
          case rel => exact ⟨pre ++ [p], t, m, c', rfl, by rw [HX.out, List.append_assoc]; rfl, by have := HM.out; simp; omega, HT.out, hJ3⟩
          case measure => exact hlt.out
      · replace hgo : some [] = some rest := by
          have h := hgo
          rw [if_neg hno] at h
          exact h
        obtain rfl := Option.some.inj hgo
        have hnb : (no != 0) = true := bne_iff_ne.2 hno
        have hnc : (no == 0) = false := beq_eq_false_iff_ne.2 hno
        clear hgo
        gi_wp2_with (first
          | (refine ⟨trivial, ?_⟩; gi_at_call 36; refine (callsIn_wide.2 (page_Of.calls (2 * l0.length + 500) A0 c0 l0 c a1 p c' no _ ⟨Good.below HG.out HB.out⟩ (Kd.C_below HC.out HB.out) HL.out HOf.out)).mono ?_; rintro e W1 ⟨vp, rfl, hRp, hb1⟩; obtain ⟨A1, c1, rfl⟩ := Kd.R_slice hRp; have hJ3 := HJb.out _ _ _ HJ0.out hb1; clear hRp hb1))
        refine ⟨fun _ h => (by cases h), ?_⟩
        gi_wp2
        refine bodyPost_ret (results_none rfl _ _ _) rfl ?_
        exact ⟨⟨_, rfl⟩, _, by rw [HX.out, List.append_nil], hJ3⟩
set_option maxHeartbeats 1000000 in
theorem page_All.pages (A0 : Option Addr) (c0 n0 : Nat) (a1 : Int) (w : World) :
    Calls Tryd.prog 64 #[.slice A0 n0 c0, .int .i64 a1] w fun e w' => e = .returned (.func (.func 82) #[] #[.pointer (some ⟨w.heap.size, 0, none⟩), .pointer (some ⟨w.heap.size + 1, 0, none⟩)]) ∧ w' = (w.alloc (.cells #[.slice A0 n0 c0] 54)).alloc (.cells #[.int .i64 a1] 3) := by
  go_enter Tryd.func64, Tryd.ntmps64
  go_wp2
  go_ret
  exact ⟨by simp, rfl⟩
theorem page_All.put {α : Type} {d : Kd α} {e base l : Nat} {W : World} {ok : Nat → Prop} {v : Value} {xs : List α} (h : d.R e W base ok v xs) (hl : l < base) (o : Obj) : d.R e (W.putObj l o) base ok v xs :=
  Kd.R_mono (Kd.R_grown (Kd.R_bound h) (grownBy_putObj' W l o) (fun k hk e => by cases e; have := hk.2.1; omega)) (fun _ hk => hk.1)
theorem page_All.boxput {W : World} {B l : Nat} {t : TypeId} {v : Value} (h : Boxed W B t v) (hl : B ≠ l) (o : Obj) : Boxed (W.putObj l o) B t v := h.kept (grownBy_putObj' W l o) (fun e => hl (by cases e; rfl))
theorem page_All.boxbelow {W W' : World} {B : Nat} {t : TypeId} {v : Value} (h : Boxed W B t v) (hb : Below W.heap.size W W') : Boxed W' B t v := (hb.block _ h.lt).trans h
theorem page_All.info : (Tryd.prog.info? 54).map (fun i => (i.zero, i.size, i.bytes)) = some (some (.slice none 0 0), 1, 24) := by kernel_rfl
theorem page_All.more {β : Type} {D : Kd β} {t base : Nat} {Wa w1 : World} {v v' : Value} {xs : List β} {x : β} {inner cs : List Value} (hE : ∀ q, q ∈ D.E → q ≠ t)
    (ho : Wa.ownsRow base t D.sz v xs.length inner) (hr : Reps (D.M Wa base (fun k => True ∧ some k ≠ v.ownBlock)) D.sz xs inner) (hx : D.M Wa base (fun _ => True) x cs)
    (hown : w1.ownsRow base t D.sz v' (xs.length + 1) (inner ++ cs)) (hg : Wa.grownBy w1 v.ownBlock) : D.R t w1 base (fun _ => True) v' (xs ++ [x]) := by
  have step : ∀ {q : β} {c : List Value}, D.M Wa base (fun k => True ∧ some k ≠ v.ownBlock) q c → D.M w1 base (fun k => True ∧ some k ≠ v'.ownBlock) q c := by
    intro q c hq
    have h1 := Kd.M_grown hq hg (fun k hk => hk.2)
    cases hb : v'.ownBlock with
    | none => exact D.M_mono (fun k hk => ⟨trivial, by simp⟩) h1
    | some g =>
      obtain ⟨cells, hc⟩ := own_typed hown g hb
      exact D.M_mono (fun k hk => ⟨trivial, fun e' => hk.2 (by cases e'; rfl)⟩) (Kd.M_types h1 hc hE)
  have hx' : D.M Wa base (fun k => True ∧ some k ≠ v.ownBlock) x cs := by
    cases hb : v.ownBlock with
    | none => exact D.M_mono (fun k hk => ⟨trivial, by simp⟩) hx
    | some g =>
      obtain ⟨cells, hc⟩ := own_typed ho g hb
      exact D.M_mono (fun k hk => ⟨trivial, fun e' => hk.2 (by cases e'; rfl)⟩) (Kd.M_types hx hc hE)
  refine ⟨fun _ _ => trivial, inner ++ cs, by rw [List.length_append]; exact hown, ?_⟩
  exact (hr.imp_ (fun _ _ hq => step hq)).snoc (step hx') (D.K_len (D.K_of_M hx))
theorem page_All.putS {α : Type} {d : Kd α} {e base l : Nat} {W : World} {ok : Nat → Prop} {v : Value} {xs : List α} (h : Kd.S d e W base ok v xs) (hl : l < base) (o : Obj) : Kd.S d e (W.putObj l o) base ok v xs :=
  Kd.S_mono (Kd.S_grown (Kd.S_bound h) (grownBy_putObj' W l o) (fun k hk e => by cases e; have := hk.2.1; omega)) (fun _ hk => hk.1)
section
attribute [local go_sem] Oper.semAt_some
set_option maxHeartbeats 4000000 in
set_option maxRecDepth 100000 in
theorem page_All.calls (A0 : Option Addr) (c0 : Nat) (l0 : List S44) (a1 : Int) (r : List (List S44)) (w : World) (hG : Aside0 (Good w)) (hr0 : Kd.C k44 w A0 l0.length l0) (hc0 : l0.length ≤ c0) (h : page_All.f l0 a1 = some r) :
    Calls Tryd.prog 40 #[.slice A0 l0.length c0, .int .i64 a1] w fun e w' => ∃ v0_ : Value, e = .returned v0_ ∧ Kd.S (Kd.slice 44 k44) 54 w' w.heap.size (fun _ => True) v0_ r ∧ Below w.heap.size w w' := by
  unfold page_All.f at h
  split at h
  rotate_left
  · cases h
  rename_i hs
  have H0 := Lib.hid h
  have HC := Lib.hid hr0
  have HL := Aside0.mk hc0
  have HS := Aside0.mk hs
  clear h hr0 hc0 hs
  refine (callsIn_wide (n := 3)).1 ?_
  refine callsIn_of_wp_marks Tryd.func40 rfl trivial ?_ rfl
  simp only [Tryd.ntmps40, List.size_toArray, List.length_cons, List.length_nil, Nat.reduceAdd, Nat.reduceSub, Array.replicate_succ, Array.replicate_zero, List.push_toArray, List.append_toArray, List.nil_append, List.cons_append]
  gi_wp2_with (refine ⟨trivial, ?_⟩; gi_at_call 64; refine (callsIn_wide.2 (page_All.pages _ _ _ _ _)).mono ?_; rintro e w' ⟨rfl, rfl⟩)
  have bO := Boxed.new w 64 (.slice none 0 0)
  have bL := Boxed.new (w.alloc (.cells #[.slice none 0 0] 64)) 54 (.slice A0 l0.length c0)
  have bN := Boxed.new ((w.alloc (.cells #[.slice none 0 0] 64)).alloc (.cells #[.slice A0 l0.length c0] 54)) 3 (.int .i64 a1)
  rw [World.size_alloc] at bL
  rw [World.size_alloc, World.size_alloc] at bN
  have hB0 : Below w.heap.size w (((w.alloc (.cells #[.slice none 0 0] 64)).alloc (.cells #[.slice A0 l0.length c0] 54)).alloc (.cells #[.int .i64 a1] 3)) := (((Below.refl _ w).alloc (Nat.le_refl _) _).alloc (by simp) _).alloc (by simp; omega) _
  have hsz : (((w.alloc (.cells #[.slice none 0 0] 64)).alloc (.cells #[.slice A0 l0.length c0] 54)).alloc (.cells #[.int .i64 a1] 3)).heap.size = w.heap.size + 3 := by simp
  have bO2 := (bO.alloc (.cells #[.slice A0 l0.length c0] 54)).alloc (.cells #[.int .i64 a1] 3)
  have bL2 := bL.alloc (.cells #[.int .i64 a1] 3)
  generalize (((w.alloc (.cells #[.slice none 0 0] 64)).alloc (.cells #[.slice A0 l0.length c0] 54)).alloc (.cells #[.int .i64 a1] 3)) = ws at bO2 bL2 bN hB0 hsz ⊢
  clear bO bL
  have HsZ := Aside0.mk hsz
  refine page_All.over (α := List S44) (it := 82) (lb := #[.pointer (some ⟨w.heap.size + 1, 0, none⟩), .pointer (some ⟨w.heap.size + 1 + 1, 0, none⟩)]) (N := l0.length + 2) rfl (enters_of Tryd.func82 (by kernel_rfl) rfl) rfl
    (fun pre W => Below w.heap.size w W ∧ Boxed W (w.heap.size + 1) 54 (.slice A0 l0.length c0) ∧ Boxed W (w.heap.size + 1 + 1) 3 (.int .i64 a1) ∧
      ∃ v, Boxed W w.heap.size 64 v ∧ Kd.S (Kd.slice 44 k44) 54 W (w.heap.size + 5) (fun _ => True) v pre)
    (fun x v n W => Kd.R k44 44 W n (fun _ => True) v x)
    (fun pre x v W => ∃ n vo, w.heap.size + 5 ≤ n ∧ Boxed W w.heap.size 64 vo ∧ Kd.S (Kd.slice 44 k44) 54 W (w.heap.size + 5) (fun k => True ∧ k < n) vo pre ∧ Kd.R k44 44 W n (fun _ => True) v x) (fun xs => xs = r)
    (fun v => { tmps := #[.slice A0 l0.length c0, .int .i64 a1, undef, undef, .slice none 0 0, .pointer (some ⟨w.heap.size, 0, none⟩), v, .slice A0 l0.length c0, .int .i64 a1, .func (.func 82) #[] #[.pointer (some ⟨w.heap.size + 1, 0, none⟩), .pointer (some ⟨w.heap.size + 1 + 1, 0, none⟩)], v, undef, undef, undef, undef, undef], defers := [] })
    ?hIb ?hIp ?hVp ?hV ?h0 ?hit ?hasg ?hbod ?hdone
  case hIb =>
    rintro pre W W' ⟨hb, h1, h2, v, h3, h4⟩ hW
    exact ⟨hb.trans (hW.mono hb.size), page_All.boxbelow h1 hW, page_All.boxbelow h2 hW, v, page_All.boxbelow h3 hW, Kd.S_below h4 hW⟩
  case hIp =>
    rintro pre W o ⟨hb, h1, h2, v, h3, h4⟩
    rw [hsz]
    exact ⟨hb.grown (grownBy_putObj' W _ o) hb.size (fun k e => by cases e; omega), page_All.boxput h1 (by omega) o, page_All.boxput h2 (by omega) o, v, page_All.boxput h3 (by omega) o, page_All.putS h4 (by omega) o⟩
  case hVp =>
    rintro pre x v W o ⟨n, vo, hn, h1, h2, h3⟩
    rw [hsz]
    exact ⟨n, vo, hn, page_All.boxput h1 (by omega) o, page_All.putS h2 (by omega) o, page_All.put h3 (by omega) o⟩
  case hV =>
    rintro pre x v W W' ⟨hb, h1, h2, vo, h3, h4⟩ hlo hW hu
    exact ⟨W.heap.size, vo, by rw [hsz] at hlo; omega, page_All.boxbelow h3 hW, Kd.S_old h4 hW, hu⟩
  case h0 => exact ⟨hB0, bL2, bN, _, bO2, Kd.S_nil _ _ _ _ _⟩
  case hit =>
    intro l W0 J hJb hJI hY h0
    refine page_All.it A0 c0 l0 a1 r w hG HC.out HL.out H0.out l (w.heap.size + 1) J hJb (fun pre W hJ => ?_) (fun pre p v Wb W hJ hb hR hN => hY pre p v Wb W hJ hb hR hN) W0 h0
    obtain ⟨⟨hb, h1, h2, _⟩, hlo⟩ := hJI pre W hJ
    exact ⟨hb, h1.cell, h2.cell⟩
  case hasg =>
    intro l v W K hK
    gi_wp2
    exact hK
  case hbod =>
    rintro l pre x v W ⟨hb, h1, h2, _⟩ ⟨n, v0, hn, h3, h4, hV⟩ hlo hN
    obtain ⟨Av, cv, rfl⟩ := Kd.R_slice hV
    obtain ⟨i0, hi, hz0, hz1, hz2⟩ := info_parts page_All.info
    have hw := (Below.refl _ W).alloc (Nat.le_refl _) (.cells #[.slice Av x.length cv] 54)
    obtain ⟨f0, hf0, hR1⟩ := Kd.S_tag (Kd.S_below h4 hw) pre.length (fun k => n ≤ k) (fun k hk h => absurd h.2 (Nat.not_lt.2 hk))
    have HV1 := Lib.hid (show (Kd.tag f0 (Kd.slice 44 k44)).M _ (w.heap.size + 5) (fun _ => True) (x, pre.length) [.slice Av x.length cv] from ⟨_, rfl, Kd.R_mono (Kd.R_lower (Kd.R_bound (Kd.R_below hV hw)) hn) (fun k hk => ⟨trivial, hf0 k hk.2.1⟩)⟩)
    obtain ⟨_, inner0, hown0, _⟩ := Kd.S_R h4
    obtain ⟨_, inner, hown, hreps⟩ := Kd.R_mono hR1 (fun _ _ => trivial)
    rw [List.length_zipIdx] at hown
    have HR := Lib.hid hreps
    have HO := Lib.hid hown
    have HO0 := Lib.hid hown0
    have HB := Lib.hid hb
    have H1 := Lib.hid h1
    have H2 := Lib.hid h2
    have H3 := Lib.hid h3
    have hc := h3.cell
    have hf := h3.frozen
    have hle : w.heap.size + 5 ≤ W.heap.size := by rw [hsz] at hlo; omega
    have HLe := Aside0.mk hle
    have HN := Aside0.mk hN
    clear hreps hown hown0 hb h1 h2 h3 h4 hR1 hf0 hV hw hle hN hlo
    gi_wp2_with (gi_at_builtin; refine wpListIn_append_own _ rfl _ _ 64 rfl (w.heap.size + 5) 54 i0 (.slice none 0 0) 1 24 Tryd.underlying64 hi hz0 hz1 hz2 rfl (by decide) _ _ _ rfl HO.out ⟨W.heap.size, 0, none⟩ 1 1 [.slice Av x.length cv] rfl rfl (cell_one_new _ _ _) (by simp [Value.oneCell']) (by have := HN.out; have := HS.out; simp only [maxLen]; omega) (by have := HN.out; have := HS.out; omega) (by have := HLe.out; rw [World.size_alloc]; omega) ?_; intro v' w1 hown' hgrow _; obtain ⟨g', cap', rfl⟩ := ownsRow_succ hown'; obtain ⟨hv1, hv2, hr2, hk2, hb2⟩ := H3.out.appended (by decide) (own_weaken HO0.out (show w.heap.size ≤ w.heap.size + 5 by omega)) (by have := HLe.out; omega) (Nat.le_refl _) (own_weaken hown' (show w.heap.size ≤ w.heap.size + 5 by omega)) hgrow; have hc1 := hv1.cell; have hf1 := hv1.frozen)
    have hR3 := page_All.more (D := Kd.tag f0 (Kd.slice 44 k44)) (t := 54) (xs := pre.zipIdx) (show ∀ q, q ∈ (Kd.slice 44 k44).E → q ≠ 54 by decide) (by rw [List.length_zipIdx]; exact HO.out) HR.out HV1.out (by rw [List.length_zipIdx]; exact hown') hgrow
    rw [← Kd.zip_snoc] at hR3
    have hS3 : Kd.S (Kd.slice 44 k44) 54 _ (w.heap.size + 5) (fun _ => True) _ (pre ++ [x]) := ⟨f0, hR3⟩
    have keep : ∀ (B : Nat) (t : TypeId) (u : Value), Boxed W B t u → B < w.heap.size + 5 → B ≠ w.heap.size → Boxed (w1.setCell ⟨w.heap.size, 0, none⟩ (.slice (some ⟨g', 0, none⟩) (pre.length + 1) cap')) B t u := fun B t u h hlt hne =>
      ((h.alloc _).kept hgrow (fun e => by have := own_base HO0.out B e.symm; omega)).kept (grownBy_setCell' w1 _ _) (fun e => hne (by cases e; rfl))
    exact ⟨HB.out.trans hb2, keep _ _ _ H1.out (by omega) (by omega), keep _ _ _ H2.out (by omega) (by omega), _, hv2, Kd.S_set hS3 hv1 (by decide) 0 _⟩
  case hdone =>
    rintro xs W rfl ⟨hb, h1, h2, v, h3, h4⟩ hD
    have hc := h3.cell
    obtain ⟨Av, cv, rfl⟩ := Kd.S_slice h4
    have H4 := Lib.hid h4
    have HB := Lib.hid hb
    have HD := Lib.hid hD
    clear h1 h2 h3 h4 hb hD
    gi_wp2
    refine ⟨by simp, .inl ⟨_, _, rfl, run_takeDeferred HD.out, ?_⟩⟩
    exact ⟨_, results_tmp rfl _ _ _, _, rfl, Kd.S_lower (page_All.putS H4.out (by rw [hsz]; omega) _) (by omega), HB.out.grown (grownBy_putObj' W _ _) HB.out.size (fun k e => by cases e; rw [hsz]; omega)⟩
end
end Go.Proofs.YtaedhehiifkcbaaDoor.PG
namespace Go.Proofs.YtaedhehiifkcbaaDoor.PG
open Go.RowKit Go.Proofs.YtaedhehiifkcbaaDoorW.PrintWords Go.Proofs.YtaedhehiifkcbaaDoorW.PrintLast Go.Proofs.YtaedhehiifkcbaaDoorW.PrintMore
attribute [local go_sem] max2_int min2_int max_two min_two max_three min_three max_four min_four   -- for this text's walks alone
set_option linter.unusedVariables false
set_option linter.unusedSimpArgs false
attribute [local go_sem high] eqA44
def afterglowlaw14_alive.f (k : Nat)  : Option (Bool) := (some (([(⟨(⟨3, 9⟩ : S42), 1, 2⟩ : S44), (⟨(⟨4, 9⟩ : S42), 1, 2⟩ : S44)] : List (S44)) : List (S44))).bind fun y273 => ((page_Of.f k y273 (⟨#[]⟩ : ByteArray) 1).bind fun bt276 => ((page_Of.f k y273 (⟨#[51, 46, 57, 46, 49, 46, 50]⟩ : ByteArray) 1).bind fun bt281 => ((page_Of.f k y273 (⟨#[51, 46, 57, 46, 49]⟩ : ByteArray) 1).bind fun bt286 => ((page_Parse.f (⟨#[51, 46, 57, 46, 49, 46, 50]⟩ : ByteArray)).bind fun bt291 => ((page_Key.f 3 9 1 2).bind fun t297 => (if t297.toList = ([51, 46, 57, 46, 49, 46, 50] : List UInt8) then (if bt276.2.2 = 0 then (if (bt276.1.length : Int) = 1 then (if 0 < (bt276.1.length : Int) then (if ((((rd_T44 bt276.1 0).f0.f0) == 3 && (((rd_T44 bt276.1 0).f0.f1) == 9)) && (((rd_T44 bt276.1 0).f1) == 1 && (((rd_T44 bt276.1 0).f2) == 2))) = true then (if bt276.2.1.toList = ([51, 46, 57, 46, 49, 46, 50] : List UInt8) then (if bt281.2.2 = 0 then (if (bt281.1.length : Int) = 1 then (if 0 < (bt281.1.length : Int) then (if ((((rd_T44 bt281.1 0).f0.f0) == 4 && (((rd_T44 bt281.1 0).f0.f1) == 9)) && (((rd_T44 bt281.1 0).f1) == 1 && (((rd_T44 bt281.1 0).f2) == 2))) = true then (if bt281.2.1.toList = ([] : List UInt8) then (if bt286.2.2 = 140 then (if bt291.2.2.2.2 = true then (if ((bt291.1 == 3 && (bt291.2.1 == 9)) && (bt291.2.2.1 == 1 && (bt291.2.2.2.1 == 2))) = true then ((page_All.f y273 1).bind fun t300 => (if (t300.length : Int) = 2 then ((page_All.f ([] : List (S44)) 1).bind fun t303 => (some ((t303.length : Int) == 1))) else (none))) else (none)) else (none)) else (none)) else (none)) else (none)) else (none)) else (none)) else (none)) else (none)) else (none)) else (none)) else (none)) else (none)) else (none)))))))
def afterglowlaw14_alive.T8 : Bool × List (List Nat × List Nat) := (true, [([], []), ([0], [0]), ([1], [1]), ([2, 1], [2]), ([3], [3]), ([4, 3], [3, 4]), ([3, 5], [3, 5]), ([6, 3], [6]), ([7], [7]), ([8, 7], [7, 8]), ([9, 7], [7, 9]), ([7, 10], [7, 10]), ([11, 7], [11]), ([12], [12]), ([13, 12], [12, 13]), ([14, 12], [12, 14]), ([12], [12]), ([15, 16, 12], [12, 15, 16]), ([12, 17], [12, 17]), ([18, 12], [18]), ([19], [19]), ([20, 19], [19, 20]), ([19, 21], [19, 21]), ([22, 19], [22]), ([23], [23]), ([24, 23], [23, 24]), ([23, 25], [23, 25]), ([26, 23], [26]), ([27], [27]), ([28, 27], [27, 28]), ([29, 27], [27, 29]), ([27, 30], [27, 30]), ([31, 27], [31]), ([32], [32]), ([33, 32], [32, 33]), ([34, 32], [32, 34]), ([32], [32]), ([35, 36, 32], [32, 35, 36]), ([32, 37], [32, 37]), ([38, 32], [38]), ([39], [39]), ([40, 39], [39, 40]), ([39, 41], [39, 41]), ([42, 39], [42]), ([43], [43]), ([44, 43], [43, 44]), ([43, 45], [43, 45]), ([46, 43], [46]), ([47], [47]), ([47, 48], [47, 48]), ([49, 47], [49]), ([50], [50]), ([50], [50]), ([51, 52, 50], [50, 51, 52]), ([50, 53], [50, 53]), ([54, 50], [54]), ([55], [55]), ([56, 55, 55], [55, 56]), ([57, 55], [55, 57]), ([58, 55], [55, 58]), ([55, 59], [55, 59]), ([60, 57], [60]), ([61, 61], [61]), ([62, 61], [61, 62]), ([63, 61], [61, 63]), ([61, 64], [61, 64]), ([65, 62, 0, 1, 2, 3, 4, 5, 6, 7, 8, 9, 10, 11, 12, 13, 14, 15, 16, 17, 18, 19, 20, 21, 22, 23, 24, 25, 26, 27, 28, 29, 30, 31, 32, 33, 34, 35, 36, 37, 38, 39, 40, 41, 42, 43, 44, 45, 46, 47, 48, 49, 50, 51, 52, 53, 54, 55, 56, 57, 58, 59, 60, 61, 62, 63, 64, 65], [65])])
def afterglowlaw14_alive.B8 : List Nat := [0, 1, 3, 7, 15, 31, 63, 127, 255, 511, 1023, 2047, 4095, 8191, 16383, 32767, 8191, 131071, 262143, 524287, 1048575, 2097151, 4194303, 8388607, 16777215, 33554431, 67108863, 134217727, 268435455, 536870911, 1073741823, 2147483647, 4294967295, 8589934591, 17179869183, 34359738367, 8589934591, 137438953471, 274877906943, 549755813887, 1099511627775, 2199023255551, 4398046511103, 8796093022207, 17592186044415, 35184372088831, 70368744177663, 140737488355327, 281474976710655, 562949953421311, 1125899906842623, 2251799813685247, 2251799813685247, 9007199254740991, 18014398509481983, 36028797018963967, 72057594037927935, 144115188075855871, 288230376151711743, 576460752303423487, 1152921504606846975, 2305843009213693951, 4611686018427387903, 9223372036854775807, 18446744073709551615, 36893488147419103231, 73786976294838206463]
theorem afterglowlaw14_alive.tab8 : rtab .any (opsOf Tryd.f28 8) = afterglowlaw14_alive.T8 := by kernel_rfl
theorem afterglowlaw14_alive.bits8 : waitsOk afterglowlaw14_alive.T8.2 afterglowlaw14_alive.B8 = true := by kernel_rfl
set_option maxHeartbeats 8000000 in
set_option maxRecDepth 100000 in
theorem afterglowlaw14_alive.calls (k : Nat)  (r : Bool) (w : World) (hG : Aside0 (Good w)) (h : afterglowlaw14_alive.f k  = some r) :
    Calls Tryd.prog 28 #[] w fun e w' => e = .returned (.bool r) ∧ Below w.heap.size w w' := by
  have hu42 := Tryd.underlying42
  have hu44 := Tryd.underlying44
  have HB := Aside0.mk (Below.refl w.heap.size w)
  have H : ((some (([(⟨(⟨3, 9⟩ : S42), 1, 2⟩ : S44), (⟨(⟨4, 9⟩ : S42), 1, 2⟩ : S44)] : List (S44)) : List (S44))).bind fun y273 => ((page_Of.f k y273 (⟨#[]⟩ : ByteArray) 1).bind fun bt276 => ((page_Of.f k y273 (⟨#[51, 46, 57, 46, 49, 46, 50]⟩ : ByteArray) 1).bind fun bt281 => ((page_Of.f k y273 (⟨#[51, 46, 57, 46, 49]⟩ : ByteArray) 1).bind fun bt286 => ((page_Parse.f (⟨#[51, 46, 57, 46, 49, 46, 50]⟩ : ByteArray)).bind fun bt291 => ((page_Key.f 3 9 1 2).bind fun t297 => (if t297.toList = ([51, 46, 57, 46, 49, 46, 50] : List UInt8) then (if bt276.2.2 = 0 then (if (bt276.1.length : Int) = 1 then (if 0 < (bt276.1.length : Int) then (if ((((rd_T44 bt276.1 0).f0.f0) == 3 && (((rd_T44 bt276.1 0).f0.f1) == 9)) && (((rd_T44 bt276.1 0).f1) == 1 && (((rd_T44 bt276.1 0).f2) == 2))) = true then (if bt276.2.1.toList = ([51, 46, 57, 46, 49, 46, 50] : List UInt8) then (if bt281.2.2 = 0 then (if (bt281.1.length : Int) = 1 then (if 0 < (bt281.1.length : Int) then (if ((((rd_T44 bt281.1 0).f0.f0) == 4 && (((rd_T44 bt281.1 0).f0.f1) == 9)) && (((rd_T44 bt281.1 0).f1) == 1 && (((rd_T44 bt281.1 0).f2) == 2))) = true then (if bt281.2.1.toList = ([] : List UInt8) then (if bt286.2.2 = 140 then (if bt291.2.2.2.2 = true then (if ((bt291.1 == 3 && (bt291.2.1 == 9)) && (bt291.2.2.1 == 1 && (bt291.2.2.2.1 == 2))) = true then ((page_All.f y273 1).bind fun t300 => (if (t300.length : Int) = 2 then ((page_All.f ([] : List (S44)) 1).bind fun t303 => (some ((t303.length : Int) == 1))) else (none))) else (none)) else (none)) else (none)) else (none)) else (none)) else (none)) else (none)) else (none)) else (none)) else (none)) else (none)) else (none)) else (none)) else (none)))))))) = some r := h
  clear h
  obtain ⟨y273, hy273⟩ : ∃ y_ : List (S44), y_ = (([(⟨(⟨3, 9⟩ : S42), 1, 2⟩ : S44), (⟨(⟨4, 9⟩ : S42), 1, 2⟩ : S44)] : List (S44))) := ⟨_, rfl⟩
  replace H : ((page_Of.f k y273 (⟨#[]⟩ : ByteArray) 1).bind fun bt276 => ((page_Of.f k y273 (⟨#[51, 46, 57, 46, 49, 46, 50]⟩ : ByteArray) 1).bind fun bt281 => ((page_Of.f k y273 (⟨#[51, 46, 57, 46, 49]⟩ : ByteArray) 1).bind fun bt286 => ((page_Parse.f (⟨#[51, 46, 57, 46, 49, 46, 50]⟩ : ByteArray)).bind fun bt291 => ((page_Key.f 3 9 1 2).bind fun t297 => (if t297.toList = ([51, 46, 57, 46, 49, 46, 50] : List UInt8) then (if bt276.2.2 = 0 then (if (bt276.1.length : Int) = 1 then (if 0 < (bt276.1.length : Int) then (if ((((rd_T44 bt276.1 0).f0.f0) == 3 && (((rd_T44 bt276.1 0).f0.f1) == 9)) && (((rd_T44 bt276.1 0).f1) == 1 && (((rd_T44 bt276.1 0).f2) == 2))) = true then (if bt276.2.1.toList = ([51, 46, 57, 46, 49, 46, 50] : List UInt8) then (if bt281.2.2 = 0 then (if (bt281.1.length : Int) = 1 then (if 0 < (bt281.1.length : Int) then (if ((((rd_T44 bt281.1 0).f0.f0) == 4 && (((rd_T44 bt281.1 0).f0.f1) == 9)) && (((rd_T44 bt281.1 0).f1) == 1 && (((rd_T44 bt281.1 0).f2) == 2))) = true then (if bt281.2.1.toList = ([] : List UInt8) then (if bt286.2.2 = 140 then (if bt291.2.2.2.2 = true then (if ((bt291.1 == 3 && (bt291.2.1 == 9)) && (bt291.2.2.1 == 1 && (bt291.2.2.2.1 == 2))) = true then ((page_All.f y273 1).bind fun t300 => (if (t300.length : Int) = 2 then ((page_All.f ([] : List (S44)) 1).bind fun t303 => (some ((t303.length : Int) == 1))) else (none))) else (none)) else (none)) else (none)) else (none)) else (none)) else (none)) else (none)) else (none)) else (none)) else (none)) else (none)) else (none)) else (none)) else (none))))))) = some r := by first | (rw [hy273]; with_reducible exact H) | (have H2_ := (Option.bind_some _ _).symm.trans H; rw [hy273]; with_reducible exact H2_) | (have H2_ := (Option.bind_some _ _).symm.trans H; with_reducible exact H2_) | with_reducible exact H | (rw [hy273]; exact H) | exact H
  have Ny273 := Aside0.mk hy273
  clear hy273
  replace H := Option.bind_eq_some_iff.mp H
  obtain ⟨⟨t276, t277, t278⟩, A10, H⟩ := H
  replace H : ((page_Of.f k y273 (⟨#[51, 46, 57, 46, 49, 46, 50]⟩ : ByteArray) 1).bind fun bt281 => ((page_Of.f k y273 (⟨#[51, 46, 57, 46, 49]⟩ : ByteArray) 1).bind fun bt286 => ((page_Parse.f (⟨#[51, 46, 57, 46, 49, 46, 50]⟩ : ByteArray)).bind fun bt291 => ((page_Key.f 3 9 1 2).bind fun t297 => (if t297.toList = ([51, 46, 57, 46, 49, 46, 50] : List UInt8) then (if t278 = 0 then (if (t276.length : Int) = 1 then (if 0 < (t276.length : Int) then (if ((((rd_T44 t276 0).f0.f0) == 3 && (((rd_T44 t276 0).f0.f1) == 9)) && (((rd_T44 t276 0).f1) == 1 && (((rd_T44 t276 0).f2) == 2))) = true then (if t277.toList = ([51, 46, 57, 46, 49, 46, 50] : List UInt8) then (if bt281.2.2 = 0 then (if (bt281.1.length : Int) = 1 then (if 0 < (bt281.1.length : Int) then (if ((((rd_T44 bt281.1 0).f0.f0) == 4 && (((rd_T44 bt281.1 0).f0.f1) == 9)) && (((rd_T44 bt281.1 0).f1) == 1 && (((rd_T44 bt281.1 0).f2) == 2))) = true then (if bt281.2.1.toList = ([] : List UInt8) then (if bt286.2.2 = 140 then (if bt291.2.2.2.2 = true then (if ((bt291.1 == 3 && (bt291.2.1 == 9)) && (bt291.2.2.1 == 1 && (bt291.2.2.2.1 == 2))) = true then ((page_All.f y273 1).bind fun t300 => (if (t300.length : Int) = 2 then ((page_All.f ([] : List (S44)) 1).bind fun t303 => (some ((t303.length : Int) == 1))) else (none))) else (none)) else (none)) else (none)) else (none)) else (none)) else (none)) else (none)) else (none)) else (none)) else (none)) else (none)) else (none)) else (none)) else (none)))))) = some r := H
  have A1 := Aside0.mk A10
  clear A10
  replace H := Option.bind_eq_some_iff.mp H
  obtain ⟨⟨t281, t282, t283⟩, A20, H⟩ := H
  replace H : ((page_Of.f k y273 (⟨#[51, 46, 57, 46, 49]⟩ : ByteArray) 1).bind fun bt286 => ((page_Parse.f (⟨#[51, 46, 57, 46, 49, 46, 50]⟩ : ByteArray)).bind fun bt291 => ((page_Key.f 3 9 1 2).bind fun t297 => (if t297.toList = ([51, 46, 57, 46, 49, 46, 50] : List UInt8) then (if t278 = 0 then (if (t276.length : Int) = 1 then (if 0 < (t276.length : Int) then (if ((((rd_T44 t276 0).f0.f0) == 3 && (((rd_T44 t276 0).f0.f1) == 9)) && (((rd_T44 t276 0).f1) == 1 && (((rd_T44 t276 0).f2) == 2))) = true then (if t277.toList = ([51, 46, 57, 46, 49, 46, 50] : List UInt8) then (if t283 = 0 then (if (t281.length : Int) = 1 then (if 0 < (t281.length : Int) then (if ((((rd_T44 t281 0).f0.f0) == 4 && (((rd_T44 t281 0).f0.f1) == 9)) && (((rd_T44 t281 0).f1) == 1 && (((rd_T44 t281 0).f2) == 2))) = true then (if t282.toList = ([] : List UInt8) then (if bt286.2.2 = 140 then (if bt291.2.2.2.2 = true then (if ((bt291.1 == 3 && (bt291.2.1 == 9)) && (bt291.2.2.1 == 1 && (bt291.2.2.2.1 == 2))) = true then ((page_All.f y273 1).bind fun t300 => (if (t300.length : Int) = 2 then ((page_All.f ([] : List (S44)) 1).bind fun t303 => (some ((t303.length : Int) == 1))) else (none))) else (none)) else (none)) else (none)) else (none)) else (none)) else (none)) else (none)) else (none)) else (none)) else (none)) else (none)) else (none)) else (none)) else (none))))) = some r := H
  have A2 := Aside0.mk A20
  clear A20
  replace H := Option.bind_eq_some_iff.mp H
  obtain ⟨⟨t286, t287, t288⟩, A30, H⟩ := H
  replace H : ((page_Parse.f (⟨#[51, 46, 57, 46, 49, 46, 50]⟩ : ByteArray)).bind fun bt291 => ((page_Key.f 3 9 1 2).bind fun t297 => (if t297.toList = ([51, 46, 57, 46, 49, 46, 50] : List UInt8) then (if t278 = 0 then (if (t276.length : Int) = 1 then (if 0 < (t276.length : Int) then (if ((((rd_T44 t276 0).f0.f0) == 3 && (((rd_T44 t276 0).f0.f1) == 9)) && (((rd_T44 t276 0).f1) == 1 && (((rd_T44 t276 0).f2) == 2))) = true then (if t277.toList = ([51, 46, 57, 46, 49, 46, 50] : List UInt8) then (if t283 = 0 then (if (t281.length : Int) = 1 then (if 0 < (t281.length : Int) then (if ((((rd_T44 t281 0).f0.f0) == 4 && (((rd_T44 t281 0).f0.f1) == 9)) && (((rd_T44 t281 0).f1) == 1 && (((rd_T44 t281 0).f2) == 2))) = true then (if t282.toList = ([] : List UInt8) then (if t288 = 140 then (if bt291.2.2.2.2 = true then (if ((bt291.1 == 3 && (bt291.2.1 == 9)) && (bt291.2.2.1 == 1 && (bt291.2.2.2.1 == 2))) = true then ((page_All.f y273 1).bind fun t300 => (if (t300.length : Int) = 2 then ((page_All.f ([] : List (S44)) 1).bind fun t303 => (some ((t303.length : Int) == 1))) else (none))) else (none)) else (none)) else (none)) else (none)) else (none)) else (none)) else (none)) else (none)) else (none)) else (none)) else (none)) else (none)) else (none)) else (none)))) = some r := H
  have A3 := Aside0.mk A30
  clear A30
  replace H := Option.bind_eq_some_iff.mp H
  obtain ⟨⟨t291, t292, t293, t294, t295⟩, A40, H⟩ := H
  replace H : ((page_Key.f 3 9 1 2).bind fun t297 => (if t297.toList = ([51, 46, 57, 46, 49, 46, 50] : List UInt8) then (if t278 = 0 then (if (t276.length : Int) = 1 then (if 0 < (t276.length : Int) then (if ((((rd_T44 t276 0).f0.f0) == 3 && (((rd_T44 t276 0).f0.f1) == 9)) && (((rd_T44 t276 0).f1) == 1 && (((rd_T44 t276 0).f2) == 2))) = true then (if t277.toList = ([51, 46, 57, 46, 49, 46, 50] : List UInt8) then (if t283 = 0 then (if (t281.length : Int) = 1 then (if 0 < (t281.length : Int) then (if ((((rd_T44 t281 0).f0.f0) == 4 && (((rd_T44 t281 0).f0.f1) == 9)) && (((rd_T44 t281 0).f1) == 1 && (((rd_T44 t281 0).f2) == 2))) = true then (if t282.toList = ([] : List UInt8) then (if t288 = 140 then (if t295 = true then (if ((t291 == 3 && (t292 == 9)) && (t293 == 1 && (t294 == 2))) = true then ((page_All.f y273 1).bind fun t300 => (if (t300.length : Int) = 2 then ((page_All.f ([] : List (S44)) 1).bind fun t303 => (some ((t303.length : Int) == 1))) else (none))) else (none)) else (none)) else (none)) else (none)) else (none)) else (none)) else (none)) else (none)) else (none)) else (none)) else (none)) else (none)) else (none)) else (none))) = some r := H
  have A4 := Aside0.mk A40
  clear A40
  replace H := Option.bind_eq_some_iff.mp H
  obtain ⟨t297, A50, H⟩ := H
  replace H : (if t297.toList = ([51, 46, 57, 46, 49, 46, 50] : List UInt8) then (if t278 = 0 then (if (t276.length : Int) = 1 then (if 0 < (t276.length : Int) then (if ((((rd_T44 t276 0).f0.f0) == 3 && (((rd_T44 t276 0).f0.f1) == 9)) && (((rd_T44 t276 0).f1) == 1 && (((rd_T44 t276 0).f2) == 2))) = true then (if t277.toList = ([51, 46, 57, 46, 49, 46, 50] : List UInt8) then (if t283 = 0 then (if (t281.length : Int) = 1 then (if 0 < (t281.length : Int) then (if ((((rd_T44 t281 0).f0.f0) == 4 && (((rd_T44 t281 0).f0.f1) == 9)) && (((rd_T44 t281 0).f1) == 1 && (((rd_T44 t281 0).f2) == 2))) = true then (if t282.toList = ([] : List UInt8) then (if t288 = 140 then (if t295 = true then (if ((t291 == 3 && (t292 == 9)) && (t293 == 1 && (t294 == 2))) = true then ((page_All.f y273 1).bind fun t300 => (if (t300.length : Int) = 2 then ((page_All.f ([] : List (S44)) 1).bind fun t303 => (some ((t303.length : Int) == 1))) else (none))) else (none)) else (none)) else (none)) else (none)) else (none)) else (none)) else (none)) else (none)) else (none)) else (none)) else (none)) else (none)) else (none)) else (none)) = some r := H
  have A5 := Aside0.mk A50
  clear A50
  by_cases c6 : t297.toList = ([51, 46, 57, 46, 49, 46, 50] : List UInt8)
  · rw [if_pos c6] at H
    have c6b0 : (t297.toList == ([51, 46, 57, 46, 49, 46, 50] : List UInt8)) = true := beq_iff_eq.mpr c6
    have c6b1 : (t297.toList != ([51, 46, 57, 46, 49, 46, 50] : List UInt8)) = false := bne_eq_false_iff_eq.mpr c6
    clear c6
    by_cases c7 : t278 = 0
    · rw [if_pos c7] at H
      have c7b0 : (t278 == 0) = true := beq_iff_eq.mpr c7
      have c7b1 : (t278 != 0) = false := bne_eq_false_iff_eq.mpr c7
      clear c7
      by_cases c8 : (t276.length : Int) = 1
      · rw [if_pos c8] at H
        have c8b0 : ((t276.length : Int) == 1) = true := beq_iff_eq.mpr c8
        have c8b1 : ((t276.length : Int) != 1) = false := bne_eq_false_iff_eq.mpr c8
        clear c8
        by_cases c9 : 0 < (t276.length : Int)
        · rw [if_pos c9] at H
          have c9b0 : decide (0 < (t276.length : Int)) = true := decide_eq_true c9
          have c9b1 : decide (0 < t276.length) = true := decide_eq_true (by omega)
          clear c9
          by_cases c10 : ((((rd_T44 t276 0).f0.f0) == 3 && (((rd_T44 t276 0).f0.f1) == 9)) && (((rd_T44 t276 0).f1) == 1 && (((rd_T44 t276 0).f2) == 2))) = true
          · rw [if_pos c10] at H
            have c10b0 : ((((rd_T44 t276 0).f0.f0) == 3 && (((rd_T44 t276 0).f0.f1) == 9)) && (((rd_T44 t276 0).f1) == 1 && (((rd_T44 t276 0).f2) == 2))) = true := c10
            clear c10
            by_cases c11 : t277.toList = ([51, 46, 57, 46, 49, 46, 50] : List UInt8)
            · rw [if_pos c11] at H
              have c11b0 : (t277.toList == ([51, 46, 57, 46, 49, 46, 50] : List UInt8)) = true := beq_iff_eq.mpr c11
              have c11b1 : (t277.toList != ([51, 46, 57, 46, 49, 46, 50] : List UInt8)) = false := bne_eq_false_iff_eq.mpr c11
              clear c11
              by_cases c12 : t283 = 0
              · rw [if_pos c12] at H
                have c12b0 : (t283 == 0) = true := beq_iff_eq.mpr c12
                have c12b1 : (t283 != 0) = false := bne_eq_false_iff_eq.mpr c12
                clear c12
                by_cases c13 : (t281.length : Int) = 1
                · rw [if_pos c13] at H
                  have c13b0 : ((t281.length : Int) == 1) = true := beq_iff_eq.mpr c13
                  have c13b1 : ((t281.length : Int) != 1) = false := bne_eq_false_iff_eq.mpr c13
                  clear c13
                  by_cases c14 : 0 < (t281.length : Int)
                  · rw [if_pos c14] at H
                    have c14b0 : decide (0 < (t281.length : Int)) = true := decide_eq_true c14
                    have c14b1 : decide (0 < t281.length) = true := decide_eq_true (by omega)
                    clear c14
                    by_cases c15 : ((((rd_T44 t281 0).f0.f0) == 4 && (((rd_T44 t281 0).f0.f1) == 9)) && (((rd_T44 t281 0).f1) == 1 && (((rd_T44 t281 0).f2) == 2))) = true
                    · rw [if_pos c15] at H
                      have c15b0 : ((((rd_T44 t281 0).f0.f0) == 4 && (((rd_T44 t281 0).f0.f1) == 9)) && (((rd_T44 t281 0).f1) == 1 && (((rd_T44 t281 0).f2) == 2))) = true := c15
                      clear c15
                      by_cases c16 : t282.toList = ([] : List UInt8)
                      · rw [if_pos c16] at H
                        have c16b0 : (t282.toList == ([] : List UInt8)) = true := beq_iff_eq.mpr c16
                        have c16b1 : (t282.toList != ([] : List UInt8)) = false := bne_eq_false_iff_eq.mpr c16
                        clear c16
                        by_cases c17 : t288 = 140
                        · rw [if_pos c17] at H
                          have c17b0 : (t288 == 140) = true := beq_iff_eq.mpr c17
                          have c17b1 : (t288 != 140) = false := bne_eq_false_iff_eq.mpr c17
                          clear c17
                          by_cases c18 : t295 = true
                          · subst c18
                            have H1 : (if ((t291 == 3 && (t292 == 9)) && (t293 == 1 && (t294 == 2))) = true then ((page_All.f y273 1).bind fun t300 => (if (t300.length : Int) = 2 then ((page_All.f ([] : List (S44)) 1).bind fun t303 => (some ((t303.length : Int) == 1))) else (none))) else (none)) = some r := by rw [if_pos rfl] at H; exact H
                            clear H
                            have H := H1
                            clear H1
                            by_cases c19 : ((t291 == 3 && (t292 == 9)) && (t293 == 1 && (t294 == 2))) = true
                            · rw [if_pos c19] at H
                              have c19b0 : ((t291 == 3 && (t292 == 9)) && (t293 == 1 && (t294 == 2))) = true := c19
                              clear c19
                              replace H := Option.bind_eq_some_iff.mp H
                              obtain ⟨t300, A200, H⟩ := H
                              replace H : (if (t300.length : Int) = 2 then ((page_All.f ([] : List (S44)) 1).bind fun t303 => (some ((t303.length : Int) == 1))) else (none)) = some r := H
                              have A20 := Aside0.mk A200
                              clear A200
                              by_cases c21 : (t300.length : Int) = 2
                              · rw [if_pos c21] at H
                                have c21b0 : ((t300.length : Int) == 2) = true := beq_iff_eq.mpr c21
                                have c21b1 : ((t300.length : Int) != 2) = false := bne_eq_false_iff_eq.mpr c21
                                clear c21
                                replace H := Option.bind_eq_some_iff.mp H
                                obtain ⟨t303, A220, H⟩ := H
                                replace H : (some ((t303.length : Int) == 1)) = some r := H
                                have A22 := Aside0.mk A220
                                clear A220
                                obtain rfl := Option.some.inj H
                                go_enter Tryd.func28, Tryd.ntmps28
                                try go_wp2_with (first | ((with_reducible refine gate_dst (N := 1) rfl ?_); (try (refine gate_guard (by rfl) ?_; dsimp only)); refine box_event ?hg (N := 1) ?hd (cs := #[.int .i64 0, .int .i64 0, .int .i64 0, .int .i64 0]) (t := 44) ?hr ?_; (case hd => rfl); (case hg => rfl); (case hr => first | (go_simp; done) | (go_simp; rfl)); intro gb271 hg w23 hbox hb; have n0_ := Aside0.mk (below_step (by repeat (first | (with_reducible first | exact HB.out | apply below_alloc | apply pw_below_drewN | apply below_drew1) | exact HB.out)) hb); have n1_ := Aside0.mk (hbox); have n2_ := Aside0.mk ((by rw [hg]; exact (below_size (by repeat (first | (with_reducible first | exact HB.out | apply below_alloc | apply pw_below_drewN | apply below_drew1) | exact HB.out))) : w.heap.size ≤ gb271)); have n3_ := Aside0.mk ((by rw [hg]; exact (below_size (by repeat (first | (with_reducible first | exact HB.out | apply below_alloc | apply pw_below_drewN | apply below_drew1) | exact HB.out))) : w.heap.size ≤ gb271)); clear HB; have HB := n0_; have BK271 := n1_; have GW271 := n2_; have GE271 := n3_; clear n0_ n1_ n2_ n3_; clear hb hbox hg; have hcz24_0 : w23.cell? ⟨gb271, 0, none⟩ = some (.int .i64 0) := (blk_cell BK271.out 0).trans rfl; have hcz24_1 : w23.cell? ⟨gb271, 1, none⟩ = some (.int .i64 0) := (blk_cell BK271.out 1).trans rfl; have hcz24_2 : w23.cell? ⟨gb271, 2, none⟩ = some (.int .i64 0) := (blk_cell BK271.out 2).trans rfl; have hcz24_3 : w23.cell? ⟨gb271, 3, none⟩ = some (.int .i64 0) := (blk_cell BK271.out 3).trans rfl; have hfz24_0 := blk_frozen BK271.out 0; have hfz24_1 := blk_frozen BK271.out 1; have hfz24_2 := blk_frozen BK271.out 2; have hfz24_3 := blk_frozen BK271.out 3) | ((with_reducible refine gate_dst (N := 2) rfl ?_); (try (refine gate_guard (by rfl) ?_; dsimp only)); refine box_event ?hg (N := 2) ?hd (cs := #[.int .i64 0, .int .i64 0, .int .i64 0, .int .i64 0]) (t := 44) ?hr ?_; (case hd => rfl); (case hg => rfl); (case hr => first | (go_simp; done) | (go_simp; rfl)); intro gb272 hg w25 hbox hb; have n0_ := Aside0.mk (blk_below (g := gb271) (o := .cells #[.int .i64 3, .int .i64 9, .int .i64 1, .int .i64 2] 44 (0, 0)) (by (with_reducible repeat (first | refine blk_drewN ?_ _ | refine blk_drew ?_ | refine blk_alloc ?_ _)); refine blk_put (cs := #[.int .i64 3, .int .i64 9, .int .i64 1, .int .i64 0]) ?_ 3 _ rfl; (with_reducible repeat (first | refine blk_drewN ?_ _ | refine blk_drew ?_ | refine blk_alloc ?_ _)); refine blk_put (cs := #[.int .i64 3, .int .i64 9, .int .i64 0, .int .i64 0]) ?_ 2 _ rfl; (with_reducible repeat (first | refine blk_drewN ?_ _ | refine blk_drew ?_ | refine blk_alloc ?_ _)); refine blk_put (cs := #[.int .i64 3, .int .i64 0, .int .i64 0, .int .i64 0]) ?_ 1 _ rfl; (with_reducible repeat (first | refine blk_drewN ?_ _ | refine blk_drew ?_ | refine blk_alloc ?_ _)); refine blk_put (cs := #[.int .i64 0, .int .i64 0, .int .i64 0, .int .i64 0]) ?_ 0 _ rfl; (with_reducible repeat (first | refine blk_drewN ?_ _ | refine blk_drew ?_ | refine blk_alloc ?_ _)); exact BK271.out) hb); have n1_ := Aside0.mk (below_step (by repeat (first | (with_reducible first | exact HB.out | apply below_alloc | apply pw_below_drewN | apply below_drew1 | refine below_set ?_ GE271.out) | exact HB.out)) hb); have n2_ := Aside0.mk (hbox); have n3_ := Aside0.mk ((by rw [hg]; exact (below_size (by repeat (first | (with_reducible first | exact HB.out | apply below_alloc | apply pw_below_drewN | apply below_drew1 | refine below_set ?_ GE271.out) | exact HB.out))) : w.heap.size ≤ gb272)); have n4_ := Aside0.mk ((by rw [hg]; exact (below_size (by repeat (first | (with_reducible first | exact HB.out | apply below_alloc | apply pw_below_drewN | apply below_drew1 | refine below_set ?_ GE271.out) | exact HB.out))) : w.heap.size ≤ gb272)); have n5_ := Aside0.mk ((by rw [hg]; exact Nat.ne_of_lt (blk_lt (g := gb271) (o := .cells #[.int .i64 3, .int .i64 9, .int .i64 1, .int .i64 2] 44 (0, 0)) (by (with_reducible repeat (first | refine blk_drewN ?_ _ | refine blk_drew ?_ | refine blk_alloc ?_ _)); refine blk_put (cs := #[.int .i64 3, .int .i64 9, .int .i64 1, .int .i64 0]) ?_ 3 _ rfl; (with_reducible repeat (first | refine blk_drewN ?_ _ | refine blk_drew ?_ | refine blk_alloc ?_ _)); refine blk_put (cs := #[.int .i64 3, .int .i64 9, .int .i64 0, .int .i64 0]) ?_ 2 _ rfl; (with_reducible repeat (first | refine blk_drewN ?_ _ | refine blk_drew ?_ | refine blk_alloc ?_ _)); refine blk_put (cs := #[.int .i64 3, .int .i64 0, .int .i64 0, .int .i64 0]) ?_ 1 _ rfl; (with_reducible repeat (first | refine blk_drewN ?_ _ | refine blk_drew ?_ | refine blk_alloc ?_ _)); refine blk_put (cs := #[.int .i64 0, .int .i64 0, .int .i64 0, .int .i64 0]) ?_ 0 _ rfl; (with_reducible repeat (first | refine blk_drewN ?_ _ | refine blk_drew ?_ | refine blk_alloc ?_ _)); exact BK271.out)) : gb271 ≠ gb272)); have n6_ := Aside0.mk ((by rw [hg]; exact Nat.ne_of_gt (blk_lt (g := gb271) (o := .cells #[.int .i64 3, .int .i64 9, .int .i64 1, .int .i64 2] 44 (0, 0)) (by (with_reducible repeat (first | refine blk_drewN ?_ _ | refine blk_drew ?_ | refine blk_alloc ?_ _)); refine blk_put (cs := #[.int .i64 3, .int .i64 9, .int .i64 1, .int .i64 0]) ?_ 3 _ rfl; (with_reducible repeat (first | refine blk_drewN ?_ _ | refine blk_drew ?_ | refine blk_alloc ?_ _)); refine blk_put (cs := #[.int .i64 3, .int .i64 9, .int .i64 0, .int .i64 0]) ?_ 2 _ rfl; (with_reducible repeat (first | refine blk_drewN ?_ _ | refine blk_drew ?_ | refine blk_alloc ?_ _)); refine blk_put (cs := #[.int .i64 3, .int .i64 0, .int .i64 0, .int .i64 0]) ?_ 1 _ rfl; (with_reducible repeat (first | refine blk_drewN ?_ _ | refine blk_drew ?_ | refine blk_alloc ?_ _)); refine blk_put (cs := #[.int .i64 0, .int .i64 0, .int .i64 0, .int .i64 0]) ?_ 0 _ rfl; (with_reducible repeat (first | refine blk_drewN ?_ _ | refine blk_drew ?_ | refine blk_alloc ?_ _)); exact BK271.out)) : gb272 ≠ gb271)); clear BK271; clear HB; have BK271 := n0_; have HB := n1_; have BK272 := n2_; have GW272 := n3_; have GE272 := n4_; have NB271_272 := n5_; have NB272_271 := n6_; clear n0_ n1_ n2_ n3_ n4_ n5_ n6_; clear hb hbox hg; have hnb26 := NB272_271.out; have hnc26 := NB271_272.out; have hcz27_0 : w25.cell? ⟨gb272, 0, none⟩ = some (.int .i64 0) := (blk_cell BK272.out 0).trans rfl; have hcz27_1 : w25.cell? ⟨gb272, 1, none⟩ = some (.int .i64 0) := (blk_cell BK272.out 1).trans rfl; have hcz27_2 : w25.cell? ⟨gb272, 2, none⟩ = some (.int .i64 0) := (blk_cell BK272.out 2).trans rfl; have hcz27_3 : w25.cell? ⟨gb272, 3, none⟩ = some (.int .i64 0) := (blk_cell BK272.out 3).trans rfl; have hfz27_0 := blk_frozen BK272.out 0; have hfz27_1 := blk_frozen BK272.out 1; have hfz27_2 := blk_frozen BK272.out 2; have hfz27_3 := blk_frozen BK272.out 3; have hcz28_0 : w25.cell? ⟨gb271, 0, none⟩ = some (.int .i64 3) := (blk_cell BK271.out 0).trans rfl; have hcz28_1 : w25.cell? ⟨gb271, 1, none⟩ = some (.int .i64 9) := (blk_cell BK271.out 1).trans rfl; have hcz28_2 : w25.cell? ⟨gb271, 2, none⟩ = some (.int .i64 1) := (blk_cell BK271.out 2).trans rfl; have hcz28_3 : w25.cell? ⟨gb271, 3, none⟩ = some (.int .i64 2) := (blk_cell BK271.out 3).trans rfl; have hfz28_0 := blk_frozen BK271.out 0; have hfz28_1 := blk_frozen BK271.out 1; have hfz28_2 := blk_frozen BK271.out 2; have hfz28_3 := blk_frozen BK271.out 3) | ((with_reducible refine gate_dst (N := 21) rfl ?_); (try (refine gate_guard (by rfl) ?_; dsimp only)); refine Kd.R_lit k44 _ 44 ?hg (N := 21) ?hd (xs := ([(⟨(⟨3, 9⟩ : S42), 1, 2⟩ : S44), (⟨(⟨4, 9⟩ : S42), 1, 2⟩ : S44)] : List (S44))) (inner := [.int .i64 3, .int .i64 9, .int .i64 1, .int .i64 2, .int .i64 4, .int .i64 9, .int .i64 1, .int .i64 2]) (ok := fun _ => True) (okp := fun _ => True) ?hr ?hp (fun _ hk => hk) trivial (Below.refl _ _) (Nat.le_refl _) (by simp) ?_; (case hd => rfl); (case hg => rfl); (case hr => first | (go_simp; done) | (go_simp; rfl)); (case hp => exact (Reps.c4 (show Kd.M k44 _ _ _ (⟨(⟨3, 9⟩ : S42), 1, 2⟩ : S44) [.int .i64 3, .int .i64 9, .int .i64 1, .int .i64 2] from (k44_mkM _ _ _ (⟨(⟨3, 9⟩ : S42), 1, 2⟩ : S44) )) (Reps.c4 (show Kd.M k44 _ _ _ (⟨(⟨4, 9⟩ : S42), 1, 2⟩ : S44) [.int .i64 4, .int .i64 9, .int .i64 1, .int .i64 2] from (k44_mkM _ _ _ (⟨(⟨4, 9⟩ : S42), 1, 2⟩ : S44) )) (Reps.none _ _)))); intro v274 w29 ho30 hb hg_ hnew_; clear hg_ hnew_; (first | rw [← Ny273.out] at ho30 | (simp only [Int.reduceToNat] at ho30; rw [← Ny273.out] at ho30)); have n0_ := Aside0.mk (Kd.R_lower (Kd.R_newB (Kd.R_newB ho30 (g := gb271) (o := .cells #[.int .i64 3, .int .i64 9, .int .i64 1, .int .i64 2] 44 (0, 0)) (by (with_reducible repeat (first | refine blk_drewN ?_ _ | refine blk_drew ?_ | refine blk_alloc ?_ _)); refine blk_far ?_ NB271_272.out _; (with_reducible repeat (first | refine blk_drewN ?_ _ | refine blk_drew ?_ | refine blk_alloc ?_ _)); refine blk_far ?_ NB271_272.out _; (with_reducible repeat (first | refine blk_drewN ?_ _ | refine blk_drew ?_ | refine blk_alloc ?_ _)); refine blk_far ?_ NB271_272.out _; (with_reducible repeat (first | refine blk_drewN ?_ _ | refine blk_drew ?_ | refine blk_alloc ?_ _)); refine blk_far ?_ NB271_272.out _; (with_reducible repeat (first | refine blk_drewN ?_ _ | refine blk_drew ?_ | refine blk_alloc ?_ _)); exact BK271.out)) (g := gb272) (o := .cells #[.int .i64 4, .int .i64 9, .int .i64 1, .int .i64 2] 44 (0, 0)) (by (with_reducible repeat (first | refine blk_drewN ?_ _ | refine blk_drew ?_ | refine blk_alloc ?_ _)); refine blk_put (cs := #[.int .i64 4, .int .i64 9, .int .i64 1, .int .i64 0]) ?_ 3 _ rfl; (with_reducible repeat (first | refine blk_drewN ?_ _ | refine blk_drew ?_ | refine blk_alloc ?_ _)); refine blk_put (cs := #[.int .i64 4, .int .i64 9, .int .i64 0, .int .i64 0]) ?_ 2 _ rfl; (with_reducible repeat (first | refine blk_drewN ?_ _ | refine blk_drew ?_ | refine blk_alloc ?_ _)); refine blk_put (cs := #[.int .i64 4, .int .i64 0, .int .i64 0, .int .i64 0]) ?_ 1 _ rfl; (with_reducible repeat (first | refine blk_drewN ?_ _ | refine blk_drew ?_ | refine blk_alloc ?_ _)); refine blk_put (cs := #[.int .i64 0, .int .i64 0, .int .i64 0, .int .i64 0]) ?_ 0 _ rfl; (with_reducible repeat (first | refine blk_drewN ?_ _ | refine blk_drew ?_ | refine blk_alloc ?_ _)); exact BK272.out)) (below_size (by repeat (first | (with_reducible first | exact HB.out | apply below_alloc | apply pw_below_drewN | apply below_drew1 | refine below_set ?_ GE271.out | refine below_set ?_ GE272.out) | exact HB.out)))); have n1_ := Aside0.mk (blk_below (g := gb271) (o := .cells #[.int .i64 3, .int .i64 9, .int .i64 1, .int .i64 2] 44 (0, 0)) (by (with_reducible repeat (first | refine blk_drewN ?_ _ | refine blk_drew ?_ | refine blk_alloc ?_ _)); refine blk_far ?_ NB271_272.out _; (with_reducible repeat (first | refine blk_drewN ?_ _ | refine blk_drew ?_ | refine blk_alloc ?_ _)); refine blk_far ?_ NB271_272.out _; (with_reducible repeat (first | refine blk_drewN ?_ _ | refine blk_drew ?_ | refine blk_alloc ?_ _)); refine blk_far ?_ NB271_272.out _; (with_reducible repeat (first | refine blk_drewN ?_ _ | refine blk_drew ?_ | refine blk_alloc ?_ _)); refine blk_far ?_ NB271_272.out _; (with_reducible repeat (first | refine blk_drewN ?_ _ | refine blk_drew ?_ | refine blk_alloc ?_ _)); exact BK271.out) hb); have n2_ := Aside0.mk (blk_below (g := gb272) (o := .cells #[.int .i64 4, .int .i64 9, .int .i64 1, .int .i64 2] 44 (0, 0)) (by (with_reducible repeat (first | refine blk_drewN ?_ _ | refine blk_drew ?_ | refine blk_alloc ?_ _)); refine blk_put (cs := #[.int .i64 4, .int .i64 9, .int .i64 1, .int .i64 0]) ?_ 3 _ rfl; (with_reducible repeat (first | refine blk_drewN ?_ _ | refine blk_drew ?_ | refine blk_alloc ?_ _)); refine blk_put (cs := #[.int .i64 4, .int .i64 9, .int .i64 0, .int .i64 0]) ?_ 2 _ rfl; (with_reducible repeat (first | refine blk_drewN ?_ _ | refine blk_drew ?_ | refine blk_alloc ?_ _)); refine blk_put (cs := #[.int .i64 4, .int .i64 0, .int .i64 0, .int .i64 0]) ?_ 1 _ rfl; (with_reducible repeat (first | refine blk_drewN ?_ _ | refine blk_drew ?_ | refine blk_alloc ?_ _)); refine blk_put (cs := #[.int .i64 0, .int .i64 0, .int .i64 0, .int .i64 0]) ?_ 0 _ rfl; (with_reducible repeat (first | refine blk_drewN ?_ _ | refine blk_drew ?_ | refine blk_alloc ?_ _)); exact BK272.out) hb); have n3_ := Aside0.mk (below_step (by repeat (first | (with_reducible first | exact HB.out | apply below_alloc | apply pw_below_drewN | apply below_drew1 | refine below_set ?_ GE271.out | refine below_set ?_ GE272.out) | exact HB.out)) hb); clear BK271; clear BK272; clear HB; have HO275 := n0_; have BK271 := n1_; have BK272 := n2_; have HB := n3_; clear n0_ n1_ n2_ n3_; clear hb ho30; obtain ⟨Ao31, co31, eo31⟩ := Kd.R_slice HO275.out; subst eo31) | ((with_reducible refine gate_callee (f := 36) rfl ?_); refine goesL_ (some 24) rfl rfl Tryd.func36 (by kernel_rfl) rfl #[.slice Ao31 y273.length co31, .string (⟨#[]⟩ : ByteArray), .int .i64 1] rfl (by (try simp only [List.map_toArray, List.map_cons, List.map_nil]); first | done | rfl | (simp only [List.length_drop, List.length_take]; rfl)) ?_; (with_reducible refine (page_Of.calls k _ _ y273 (⟨#[]⟩ : ByteArray) 1 t276 t277 t278 _ ?side3 ?side1 ?side2 A1.out).mono ?_); (case side1 => repeat (first | exact (Kd.R_reads' HO275.out).2.2 | (with_reducible refine Kd.C_alloc ?_ _) | (with_reducible refine Kd.C_drewN ?_ _) | (with_reducible refine Kd.C_drew ?_))); (case side2 => exact (Kd.R_reads' HO275.out).2.1); (case side3 => exact ⟨Good.below hG.out (by repeat (first | (with_reducible first | exact HB.out | apply below_alloc | apply pw_below_drewN | apply below_drew1 | refine below_set ?_ GE271.out | refine below_set ?_ GE272.out) | exact HB.out))⟩); rintro e w32 ⟨v279, rfl, ho0, hb⟩; refine ⟨_, rfl, ?_⟩; have n0_ := Aside0.mk (Kd.R_elder' (by (with_reducible repeat (first | apply Kd.R_alloc | apply Kd.R_drewN | apply Kd.R_drew)); exact HO275.out) (Kd.R_base ho0) hb); have n1_ := Aside0.mk (Kd.R_lower (Kd.R_newB (Kd.R_newB (Kd.R_new' ho0 (Kd.R_lt (by (with_reducible repeat (first | apply Kd.R_alloc | apply Kd.R_drewN | apply Kd.R_drew)); exact HO275.out))) (g := gb271) (o := .cells #[.int .i64 3, .int .i64 9, .int .i64 1, .int .i64 2] 44 (0, 0)) (by (with_reducible repeat (first | refine blk_drewN ?_ _ | refine blk_drew ?_ | refine blk_alloc ?_ _)); exact BK271.out)) (g := gb272) (o := .cells #[.int .i64 4, .int .i64 9, .int .i64 1, .int .i64 2] 44 (0, 0)) (by (with_reducible repeat (first | refine blk_drewN ?_ _ | refine blk_drew ?_ | refine blk_alloc ?_ _)); exact BK272.out)) (below_size (by repeat (first | (with_reducible first | exact HB.out | apply below_alloc | apply pw_below_drewN | apply below_drew1 | refine below_set ?_ GE271.out | refine below_set ?_ GE272.out) | exact HB.out)))); have n2_ := Aside0.mk (blk_below (g := gb271) (o := .cells #[.int .i64 3, .int .i64 9, .int .i64 1, .int .i64 2] 44 (0, 0)) (by (with_reducible repeat (first | refine blk_drewN ?_ _ | refine blk_drew ?_ | refine blk_alloc ?_ _)); exact BK271.out) hb); have n3_ := Aside0.mk (blk_below (g := gb272) (o := .cells #[.int .i64 4, .int .i64 9, .int .i64 1, .int .i64 2] 44 (0, 0)) (by (with_reducible repeat (first | refine blk_drewN ?_ _ | refine blk_drew ?_ | refine blk_alloc ?_ _)); exact BK272.out) hb); have n4_ := Aside0.mk (below_step (by repeat (first | (with_reducible first | exact HB.out | apply below_alloc | apply pw_below_drewN | apply below_drew1 | refine below_set ?_ GE271.out | refine below_set ?_ GE272.out) | exact HB.out)) hb); clear HO275; clear BK271; clear BK272; clear HB; have HO275 := n0_; have HO280 := n1_; have BK271 := n2_; have BK272 := n3_; have HB := n4_; clear n0_ n1_ n2_ n3_ n4_; (try clear hb); (try clear hb2); (try clear hk); (try clear hi); (try clear ho0)) | ((with_reducible refine gate_callee (f := 36) rfl ?_); refine goesL_ (some 30) rfl rfl Tryd.func36 (by kernel_rfl) rfl #[.slice Ao31 y273.length co31, .string (⟨#[51, 46, 57, 46, 49, 46, 50]⟩ : ByteArray), .int .i64 1] rfl (by (try simp only [List.map_toArray, List.map_cons, List.map_nil]); first | done | rfl | (simp only [List.length_drop, List.length_take]; rfl)) ?_; (with_reducible refine (page_Of.calls k _ _ y273 (⟨#[51, 46, 57, 46, 49, 46, 50]⟩ : ByteArray) 1 t281 t282 t283 _ ?side3 ?side1 ?side2 A2.out).mono ?_); (case side1 => repeat (first | exact (Kd.R_reads' HO275.out).2.2 | (with_reducible refine Kd.C_alloc ?_ _) | (with_reducible refine Kd.C_drewN ?_ _) | (with_reducible refine Kd.C_drew ?_))); (case side2 => exact (Kd.R_reads' HO275.out).2.1); (case side3 => exact ⟨Good.below hG.out (by repeat (first | (with_reducible first | exact HB.out | apply below_alloc | apply pw_below_drewN | apply below_drew1 | refine below_set ?_ GE271.out | refine below_set ?_ GE272.out) | exact HB.out))⟩); rintro e w33 ⟨v284, rfl, ho0, hb⟩; refine ⟨_, rfl, ?_⟩; have n0_ := Aside0.mk (Kd.R_elder' (by (with_reducible repeat (first | apply Kd.R_alloc | apply Kd.R_drewN | apply Kd.R_drew)); exact HO275.out) (Kd.R_base ho0) hb); have n1_ := Aside0.mk (Kd.R_elder' (by (with_reducible repeat (first | apply Kd.R_alloc | apply Kd.R_drewN | apply Kd.R_drew)); exact HO280.out) (Kd.R_base ho0) hb); have n2_ := Aside0.mk (Kd.R_lower (Kd.R_newB (Kd.R_newB (Kd.R_new' (Kd.R_new' ho0 (Kd.R_lt (by (with_reducible repeat (first | apply Kd.R_alloc | apply Kd.R_drewN | apply Kd.R_drew)); exact HO275.out))) (Kd.R_lt (by (with_reducible repeat (first | apply Kd.R_alloc | apply Kd.R_drewN | apply Kd.R_drew)); exact HO280.out))) (g := gb271) (o := .cells #[.int .i64 3, .int .i64 9, .int .i64 1, .int .i64 2] 44 (0, 0)) (by (with_reducible repeat (first | refine blk_drewN ?_ _ | refine blk_drew ?_ | refine blk_alloc ?_ _)); exact BK271.out)) (g := gb272) (o := .cells #[.int .i64 4, .int .i64 9, .int .i64 1, .int .i64 2] 44 (0, 0)) (by (with_reducible repeat (first | refine blk_drewN ?_ _ | refine blk_drew ?_ | refine blk_alloc ?_ _)); exact BK272.out)) (below_size (by repeat (first | (with_reducible first | exact HB.out | apply below_alloc | apply pw_below_drewN | apply below_drew1 | refine below_set ?_ GE271.out | refine below_set ?_ GE272.out) | exact HB.out)))); have n3_ := Aside0.mk (blk_below (g := gb271) (o := .cells #[.int .i64 3, .int .i64 9, .int .i64 1, .int .i64 2] 44 (0, 0)) (by (with_reducible repeat (first | refine blk_drewN ?_ _ | refine blk_drew ?_ | refine blk_alloc ?_ _)); exact BK271.out) hb); have n4_ := Aside0.mk (blk_below (g := gb272) (o := .cells #[.int .i64 4, .int .i64 9, .int .i64 1, .int .i64 2] 44 (0, 0)) (by (with_reducible repeat (first | refine blk_drewN ?_ _ | refine blk_drew ?_ | refine blk_alloc ?_ _)); exact BK272.out) hb); have n5_ := Aside0.mk (below_step (by repeat (first | (with_reducible first | exact HB.out | apply below_alloc | apply pw_below_drewN | apply below_drew1 | refine below_set ?_ GE271.out | refine below_set ?_ GE272.out) | exact HB.out)) hb); clear HO275; clear HO280; clear BK271; clear BK272; clear HB; have HO275 := n0_; have HO280 := n1_; have HO285 := n2_; have BK271 := n3_; have BK272 := n4_; have HB := n5_; clear n0_ n1_ n2_ n3_ n4_ n5_; (try clear hb); (try clear hb2); (try clear hk); (try clear hi); (try clear ho0)) | ((with_reducible refine gate_callee (f := 36) rfl ?_); refine goesL_ (some 36) rfl rfl Tryd.func36 (by kernel_rfl) rfl #[.slice Ao31 y273.length co31, .string (⟨#[51, 46, 57, 46, 49]⟩ : ByteArray), .int .i64 1] rfl (by (try simp only [List.map_toArray, List.map_cons, List.map_nil]); first | done | rfl | (simp only [List.length_drop, List.length_take]; rfl)) ?_; (with_reducible refine (page_Of.calls k _ _ y273 (⟨#[51, 46, 57, 46, 49]⟩ : ByteArray) 1 t286 t287 t288 _ ?side3 ?side1 ?side2 A3.out).mono ?_); (case side1 => repeat (first | exact (Kd.R_reads' HO275.out).2.2 | (with_reducible refine Kd.C_alloc ?_ _) | (with_reducible refine Kd.C_drewN ?_ _) | (with_reducible refine Kd.C_drew ?_))); (case side2 => exact (Kd.R_reads' HO275.out).2.1); (case side3 => exact ⟨Good.below hG.out (by repeat (first | (with_reducible first | exact HB.out | apply below_alloc | apply pw_below_drewN | apply below_drew1 | refine below_set ?_ GE271.out | refine below_set ?_ GE272.out) | exact HB.out))⟩); rintro e w34 ⟨v289, rfl, ho0, hb⟩; refine ⟨_, rfl, ?_⟩; have n0_ := Aside0.mk (Kd.R_elder' (by (with_reducible repeat (first | apply Kd.R_alloc | apply Kd.R_drewN | apply Kd.R_drew)); exact HO275.out) (Kd.R_base ho0) hb); have n1_ := Aside0.mk (Kd.R_elder' (by (with_reducible repeat (first | apply Kd.R_alloc | apply Kd.R_drewN | apply Kd.R_drew)); exact HO280.out) (Kd.R_base ho0) hb); have n2_ := Aside0.mk (Kd.R_elder' (by (with_reducible repeat (first | apply Kd.R_alloc | apply Kd.R_drewN | apply Kd.R_drew)); exact HO285.out) (Kd.R_base ho0) hb); have n3_ := Aside0.mk (Kd.R_lower (Kd.R_newB (Kd.R_newB (Kd.R_new' (Kd.R_new' (Kd.R_new' ho0 (Kd.R_lt (by (with_reducible repeat (first | apply Kd.R_alloc | apply Kd.R_drewN | apply Kd.R_drew)); exact HO275.out))) (Kd.R_lt (by (with_reducible repeat (first | apply Kd.R_alloc | apply Kd.R_drewN | apply Kd.R_drew)); exact HO280.out))) (Kd.R_lt (by (with_reducible repeat (first | apply Kd.R_alloc | apply Kd.R_drewN | apply Kd.R_drew)); exact HO285.out))) (g := gb271) (o := .cells #[.int .i64 3, .int .i64 9, .int .i64 1, .int .i64 2] 44 (0, 0)) (by (with_reducible repeat (first | refine blk_drewN ?_ _ | refine blk_drew ?_ | refine blk_alloc ?_ _)); exact BK271.out)) (g := gb272) (o := .cells #[.int .i64 4, .int .i64 9, .int .i64 1, .int .i64 2] 44 (0, 0)) (by (with_reducible repeat (first | refine blk_drewN ?_ _ | refine blk_drew ?_ | refine blk_alloc ?_ _)); exact BK272.out)) (below_size (by repeat (first | (with_reducible first | exact HB.out | apply below_alloc | apply pw_below_drewN | apply below_drew1 | refine below_set ?_ GE271.out | refine below_set ?_ GE272.out) | exact HB.out)))); have n4_ := Aside0.mk (blk_below (g := gb271) (o := .cells #[.int .i64 3, .int .i64 9, .int .i64 1, .int .i64 2] 44 (0, 0)) (by (with_reducible repeat (first | refine blk_drewN ?_ _ | refine blk_drew ?_ | refine blk_alloc ?_ _)); exact BK271.out) hb); have n5_ := Aside0.mk (blk_below (g := gb272) (o := .cells #[.int .i64 4, .int .i64 9, .int .i64 1, .int .i64 2] 44 (0, 0)) (by (with_reducible repeat (first | refine blk_drewN ?_ _ | refine blk_drew ?_ | refine blk_alloc ?_ _)); exact BK272.out) hb); have n6_ := Aside0.mk (below_step (by repeat (first | (with_reducible first | exact HB.out | apply below_alloc | apply pw_below_drewN | apply below_drew1 | refine below_set ?_ GE271.out | refine below_set ?_ GE272.out) | exact HB.out)) hb); clear HO275; clear HO280; clear HO285; clear BK271; clear BK272; clear HB; have HO275 := n0_; have HO280 := n1_; have HO285 := n2_; have HO290 := n3_; have BK271 := n4_; have BK272 := n5_; have HB := n6_; clear n0_ n1_ n2_ n3_ n4_ n5_ n6_; (try clear hb); (try clear hb2); (try clear hk); (try clear hi); (try clear ho0)) | ((with_reducible refine gate_callee (f := 31) rfl ?_); refine goesL_ (some 41) rfl rfl Tryd.func31 (by kernel_rfl) rfl #[.string (⟨#[51, 46, 57, 46, 49, 46, 50]⟩ : ByteArray)] rfl (by (try simp only [List.map_toArray, List.map_cons, List.map_nil]); first | done | rfl | (simp only [List.length_drop, List.length_take]; rfl)) ?_; (with_reducible refine (page_Parse.calls (⟨#[51, 46, 57, 46, 49, 46, 50]⟩ : ByteArray) t291 t292 t293 t294 true _ ?side1 A4.out).mono ?_); (case side1 => exact ⟨Good.below hG.out (by repeat (first | (with_reducible first | exact HB.out | apply below_alloc | apply pw_below_drewN | apply below_drew1 | refine below_set ?_ GE271.out | refine below_set ?_ GE272.out) | exact HB.out))⟩); rintro e w35 ⟨rfl, hb⟩; refine ⟨_, rfl, ?_⟩; have n0_ := Aside0.mk (Kd.R_below (by (with_reducible repeat (first | apply Kd.R_alloc | apply Kd.R_drewN | apply Kd.R_drew)); exact HO275.out) hb); have n1_ := Aside0.mk (Kd.R_below (by (with_reducible repeat (first | apply Kd.R_alloc | apply Kd.R_drewN | apply Kd.R_drew)); exact HO280.out) hb); have n2_ := Aside0.mk (Kd.R_below (by (with_reducible repeat (first | apply Kd.R_alloc | apply Kd.R_drewN | apply Kd.R_drew)); exact HO285.out) hb); have n3_ := Aside0.mk (Kd.R_below (by (with_reducible repeat (first | apply Kd.R_alloc | apply Kd.R_drewN | apply Kd.R_drew)); exact HO290.out) hb); have n4_ := Aside0.mk (blk_below (g := gb271) (o := .cells #[.int .i64 3, .int .i64 9, .int .i64 1, .int .i64 2] 44 (0, 0)) (by (with_reducible repeat (first | refine blk_drewN ?_ _ | refine blk_drew ?_ | refine blk_alloc ?_ _)); exact BK271.out) hb); have n5_ := Aside0.mk (blk_below (g := gb272) (o := .cells #[.int .i64 4, .int .i64 9, .int .i64 1, .int .i64 2] 44 (0, 0)) (by (with_reducible repeat (first | refine blk_drewN ?_ _ | refine blk_drew ?_ | refine blk_alloc ?_ _)); exact BK272.out) hb); have n6_ := Aside0.mk (below_step (by repeat (first | (with_reducible first | exact HB.out | apply below_alloc | apply pw_below_drewN | apply below_drew1 | refine below_set ?_ GE271.out | refine below_set ?_ GE272.out) | exact HB.out)) hb); clear HO275; clear HO280; clear HO285; clear HO290; clear BK271; clear BK272; clear HB; have HO275 := n0_; have HO280 := n1_; have HO285 := n2_; have HO290 := n3_; have BK271 := n4_; have BK272 := n5_; have HB := n6_; clear n0_ n1_ n2_ n3_ n4_ n5_ n6_; (try clear hb); (try clear hb2); (try clear hk); (try clear hi)) | ((with_reducible refine gate_dst (N := 13) rfl ?_); (try (refine gate_guard (by rfl) ?_; dsimp only)); refine box_event ?hg (N := 13) ?hd (cs := #[.int .i64 0, .int .i64 0, .int .i64 0, .int .i64 0]) (t := 44) ?hr ?_; (case hd => rfl); (case hg => rfl); (case hr => first | (go_simp; done) | (go_simp; rfl)); intro gb296 hg w36 hbox hb; have n0_ := Aside0.mk (Kd.R_below (Kd.R_elderB (by (with_reducible repeat (first | apply Kd.R_alloc | apply Kd.R_drewN | apply Kd.R_drew)); exact HO275.out) gb296 (Nat.le_of_eq hg.symm)) hb); have n1_ := Aside0.mk (Kd.R_below (Kd.R_elderB (by (with_reducible repeat (first | apply Kd.R_alloc | apply Kd.R_drewN | apply Kd.R_drew)); exact HO280.out) gb296 (Nat.le_of_eq hg.symm)) hb); have n2_ := Aside0.mk (Kd.R_below (Kd.R_elderB (by (with_reducible repeat (first | apply Kd.R_alloc | apply Kd.R_drewN | apply Kd.R_drew)); exact HO285.out) gb296 (Nat.le_of_eq hg.symm)) hb); have n3_ := Aside0.mk (Kd.R_below (Kd.R_elderB (by (with_reducible repeat (first | apply Kd.R_alloc | apply Kd.R_drewN | apply Kd.R_drew)); exact HO290.out) gb296 (Nat.le_of_eq hg.symm)) hb); have n4_ := Aside0.mk (blk_below (g := gb271) (o := .cells #[.int .i64 3, .int .i64 9, .int .i64 1, .int .i64 2] 44 (0, 0)) (by (with_reducible repeat (first | refine blk_drewN ?_ _ | refine blk_drew ?_ | refine blk_alloc ?_ _)); exact BK271.out) hb); have n5_ := Aside0.mk (blk_below (g := gb272) (o := .cells #[.int .i64 4, .int .i64 9, .int .i64 1, .int .i64 2] 44 (0, 0)) (by (with_reducible repeat (first | refine blk_drewN ?_ _ | refine blk_drew ?_ | refine blk_alloc ?_ _)); exact BK272.out) hb); have n6_ := Aside0.mk (below_step (by repeat (first | (with_reducible first | exact HB.out | apply below_alloc | apply pw_below_drewN | apply below_drew1 | refine below_set ?_ GE271.out | refine below_set ?_ GE272.out) | exact HB.out)) hb); have n7_ := Aside0.mk (hbox); have n8_ := Aside0.mk ((by rw [hg]; exact (below_size (by repeat (first | (with_reducible first | exact HB.out | apply below_alloc | apply pw_below_drewN | apply below_drew1 | refine below_set ?_ GE271.out | refine below_set ?_ GE272.out) | exact HB.out))) : w.heap.size ≤ gb296)); have n9_ := Aside0.mk ((by rw [hg]; exact (below_size (by repeat (first | (with_reducible first | exact HB.out | apply below_alloc | apply pw_below_drewN | apply below_drew1 | refine below_set ?_ GE271.out | refine below_set ?_ GE272.out) | exact HB.out))) : w.heap.size ≤ gb296)); have n10_ := Aside0.mk ((by rw [hg]; exact Nat.ne_of_lt (blk_lt (g := gb271) (o := .cells #[.int .i64 3, .int .i64 9, .int .i64 1, .int .i64 2] 44 (0, 0)) (by (with_reducible repeat (first | refine blk_drewN ?_ _ | refine blk_drew ?_ | refine blk_alloc ?_ _)); exact BK271.out)) : gb271 ≠ gb296)); have n11_ := Aside0.mk ((by rw [hg]; exact Nat.ne_of_gt (blk_lt (g := gb271) (o := .cells #[.int .i64 3, .int .i64 9, .int .i64 1, .int .i64 2] 44 (0, 0)) (by (with_reducible repeat (first | refine blk_drewN ?_ _ | refine blk_drew ?_ | refine blk_alloc ?_ _)); exact BK271.out)) : gb296 ≠ gb271)); have n12_ := Aside0.mk ((by rw [hg]; exact Nat.ne_of_lt (blk_lt (g := gb272) (o := .cells #[.int .i64 4, .int .i64 9, .int .i64 1, .int .i64 2] 44 (0, 0)) (by (with_reducible repeat (first | refine blk_drewN ?_ _ | refine blk_drew ?_ | refine blk_alloc ?_ _)); exact BK272.out)) : gb272 ≠ gb296)); have n13_ := Aside0.mk ((by rw [hg]; exact Nat.ne_of_gt (blk_lt (g := gb272) (o := .cells #[.int .i64 4, .int .i64 9, .int .i64 1, .int .i64 2] 44 (0, 0)) (by (with_reducible repeat (first | refine blk_drewN ?_ _ | refine blk_drew ?_ | refine blk_alloc ?_ _)); exact BK272.out)) : gb296 ≠ gb272)); clear HO275; clear HO280; clear HO285; clear HO290; clear BK271; clear BK272; clear HB; have HO275 := n0_; have HO280 := n1_; have HO285 := n2_; have HO290 := n3_; have BK271 := n4_; have BK272 := n5_; have HB := n6_; have BK296 := n7_; have GW296 := n8_; have GE296 := n9_; have NB271_296 := n10_; have NB296_271 := n11_; have NB272_296 := n12_; have NB296_272 := n13_; clear n0_ n1_ n2_ n3_ n4_ n5_ n6_ n7_ n8_ n9_ n10_ n11_ n12_ n13_; clear hb hbox hg; have hnb37 := NB296_271.out; have hnc37 := NB271_296.out; have hnb38 := NB296_272.out; have hnc38 := NB272_296.out; have hcz39_0 : w36.cell? ⟨gb296, 0, none⟩ = some (.int .i64 0) := (blk_cell BK296.out 0).trans rfl; have hcz39_1 : w36.cell? ⟨gb296, 1, none⟩ = some (.int .i64 0) := (blk_cell BK296.out 1).trans rfl; have hcz39_2 : w36.cell? ⟨gb296, 2, none⟩ = some (.int .i64 0) := (blk_cell BK296.out 2).trans rfl; have hcz39_3 : w36.cell? ⟨gb296, 3, none⟩ = some (.int .i64 0) := (blk_cell BK296.out 3).trans rfl; have hfz39_0 := blk_frozen BK296.out 0; have hfz39_1 := blk_frozen BK296.out 1; have hfz39_2 := blk_frozen BK296.out 2; have hfz39_3 := blk_frozen BK296.out 3))
                                have n0_ : Aside0 (Kd.R k44 44 ((((w36.setCell ⟨gb296, 0, none⟩ (.int .i64 t291)).setCell ⟨gb296, 1, none⟩ (.int .i64 t292)).setCell ⟨gb296, 2, none⟩ (.int .i64 t293)).setCell ⟨gb296, 3, none⟩ (.int .i64 t294)) w.heap.size (fun k_ => some k_ ≠ (v279 : Value).ownBlock ∧ some k_ ≠ (v284 : Value).ownBlock ∧ some k_ ≠ (v289 : Value).ownBlock ∧ k_ ≠ gb271 ∧ k_ ≠ gb272 ∧ k_ ≠ gb296) (.slice Ao31 y273.length co31) y273) := ⟨by (with_reducible repeat (first | apply Kd.R_alloc | apply Kd.R_drewN | apply Kd.R_drew)); exact Kd.R_mono (Kd.R_far (p := ⟨gb296, 3, none⟩) (Kd.R_far (p := ⟨gb296, 2, none⟩) (Kd.R_far (p := ⟨gb296, 1, none⟩) (Kd.R_far (p := ⟨gb296, 0, none⟩) (Kd.R_mono HO275.out (fun k_ hk => (⟨hk, hk.2⟩ : _ ∧ k_ ≠ gb296))) (fun _ hk => hk.2) (.int .i64 t291)) (fun _ hk => hk.2) (.int .i64 t292)) (fun _ hk => hk.2) (.int .i64 t293)) (fun _ hk => hk.2) (.int .i64 t294)) (fun _ hk => ⟨hk.1.1.1.1.2, ⟨hk.1.1.1.2, ⟨hk.1.1.2, ⟨hk.1.1.1.1.1.1.2, ⟨hk.1.1.1.1.1.2, hk.1.2⟩⟩⟩⟩⟩)⟩
                                have n1_ : Aside0 (Kd.R k44 44 ((((w36.setCell ⟨gb296, 0, none⟩ (.int .i64 t291)).setCell ⟨gb296, 1, none⟩ (.int .i64 t292)).setCell ⟨gb296, 2, none⟩ (.int .i64 t293)).setCell ⟨gb296, 3, none⟩ (.int .i64 t294)) w.heap.size (fun k_ => some k_ ≠ (.slice Ao31 y273.length co31 : Value).ownBlock ∧ some k_ ≠ (v284 : Value).ownBlock ∧ some k_ ≠ (v289 : Value).ownBlock ∧ k_ ≠ gb271 ∧ k_ ≠ gb272 ∧ k_ ≠ gb296) v279 t276) := ⟨by (with_reducible repeat (first | apply Kd.R_alloc | apply Kd.R_drewN | apply Kd.R_drew)); exact Kd.R_mono (Kd.R_far (p := ⟨gb296, 3, none⟩) (Kd.R_far (p := ⟨gb296, 2, none⟩) (Kd.R_far (p := ⟨gb296, 1, none⟩) (Kd.R_far (p := ⟨gb296, 0, none⟩) (Kd.R_mono HO280.out (fun k_ hk => (⟨hk, hk.2⟩ : _ ∧ k_ ≠ gb296))) (fun _ hk => hk.2) (.int .i64 t291)) (fun _ hk => hk.2) (.int .i64 t292)) (fun _ hk => hk.2) (.int .i64 t293)) (fun _ hk => hk.2) (.int .i64 t294)) (fun _ hk => ⟨hk.1.1.1.1.1.1.2, ⟨hk.1.1.1.2, ⟨hk.1.1.2, ⟨hk.1.1.1.1.1.2, ⟨hk.1.1.1.1.2, hk.1.2⟩⟩⟩⟩⟩)⟩
                                have n2_ : Aside0 (Kd.R k44 44 ((((w36.setCell ⟨gb296, 0, none⟩ (.int .i64 t291)).setCell ⟨gb296, 1, none⟩ (.int .i64 t292)).setCell ⟨gb296, 2, none⟩ (.int .i64 t293)).setCell ⟨gb296, 3, none⟩ (.int .i64 t294)) w.heap.size (fun k_ => some k_ ≠ (.slice Ao31 y273.length co31 : Value).ownBlock ∧ some k_ ≠ (v279 : Value).ownBlock ∧ some k_ ≠ (v289 : Value).ownBlock ∧ k_ ≠ gb271 ∧ k_ ≠ gb272 ∧ k_ ≠ gb296) v284 t281) := ⟨by (with_reducible repeat (first | apply Kd.R_alloc | apply Kd.R_drewN | apply Kd.R_drew)); exact Kd.R_mono (Kd.R_far (p := ⟨gb296, 3, none⟩) (Kd.R_far (p := ⟨gb296, 2, none⟩) (Kd.R_far (p := ⟨gb296, 1, none⟩) (Kd.R_far (p := ⟨gb296, 0, none⟩) (Kd.R_mono HO285.out (fun k_ hk => (⟨hk, hk.2⟩ : _ ∧ k_ ≠ gb296))) (fun _ hk => hk.2) (.int .i64 t291)) (fun _ hk => hk.2) (.int .i64 t292)) (fun _ hk => hk.2) (.int .i64 t293)) (fun _ hk => hk.2) (.int .i64 t294)) (fun _ hk => ⟨hk.1.1.1.1.1.1.2, ⟨hk.1.1.1.1.1.2, ⟨hk.1.1.2, ⟨hk.1.1.1.1.2, ⟨hk.1.1.1.2, hk.1.2⟩⟩⟩⟩⟩)⟩
                                have n3_ : Aside0 (Kd.R k44 44 ((((w36.setCell ⟨gb296, 0, none⟩ (.int .i64 t291)).setCell ⟨gb296, 1, none⟩ (.int .i64 t292)).setCell ⟨gb296, 2, none⟩ (.int .i64 t293)).setCell ⟨gb296, 3, none⟩ (.int .i64 t294)) w.heap.size (fun k_ => some k_ ≠ (.slice Ao31 y273.length co31 : Value).ownBlock ∧ some k_ ≠ (v279 : Value).ownBlock ∧ some k_ ≠ (v284 : Value).ownBlock ∧ k_ ≠ gb271 ∧ k_ ≠ gb272 ∧ k_ ≠ gb296) v289 t286) := ⟨by (with_reducible repeat (first | apply Kd.R_alloc | apply Kd.R_drewN | apply Kd.R_drew)); exact Kd.R_mono (Kd.R_far (p := ⟨gb296, 3, none⟩) (Kd.R_far (p := ⟨gb296, 2, none⟩) (Kd.R_far (p := ⟨gb296, 1, none⟩) (Kd.R_far (p := ⟨gb296, 0, none⟩) (Kd.R_mono HO290.out (fun k_ hk => (⟨hk, hk.2⟩ : _ ∧ k_ ≠ gb296))) (fun _ hk => hk.2) (.int .i64 t291)) (fun _ hk => hk.2) (.int .i64 t292)) (fun _ hk => hk.2) (.int .i64 t293)) (fun _ hk => hk.2) (.int .i64 t294)) (fun _ hk => ⟨hk.1.1.1.1.1.1.2, ⟨hk.1.1.1.1.1.2, ⟨hk.1.1.1.1.2, ⟨hk.1.1.1.2, ⟨hk.1.1.2, hk.1.2⟩⟩⟩⟩⟩)⟩
                                have n4_ : Aside0 (((((w36.setCell ⟨gb296, 0, none⟩ (.int .i64 t291)).setCell ⟨gb296, 1, none⟩ (.int .i64 t292)).setCell ⟨gb296, 2, none⟩ (.int .i64 t293)).setCell ⟨gb296, 3, none⟩ (.int .i64 t294)).heap[gb271]? = some (.cells #[.int .i64 3, .int .i64 9, .int .i64 1, .int .i64 2] 44 (0, 0))) := ⟨by (with_reducible repeat (first | refine blk_drewN ?_ _ | refine blk_drew ?_ | refine blk_alloc ?_ _)); refine blk_far ?_ NB271_296.out _; (with_reducible repeat (first | refine blk_drewN ?_ _ | refine blk_drew ?_ | refine blk_alloc ?_ _)); refine blk_far ?_ NB271_296.out _; (with_reducible repeat (first | refine blk_drewN ?_ _ | refine blk_drew ?_ | refine blk_alloc ?_ _)); refine blk_far ?_ NB271_296.out _; (with_reducible repeat (first | refine blk_drewN ?_ _ | refine blk_drew ?_ | refine blk_alloc ?_ _)); refine blk_far ?_ NB271_296.out _; (with_reducible repeat (first | refine blk_drewN ?_ _ | refine blk_drew ?_ | refine blk_alloc ?_ _)); exact BK271.out⟩
                                have n5_ : Aside0 (((((w36.setCell ⟨gb296, 0, none⟩ (.int .i64 t291)).setCell ⟨gb296, 1, none⟩ (.int .i64 t292)).setCell ⟨gb296, 2, none⟩ (.int .i64 t293)).setCell ⟨gb296, 3, none⟩ (.int .i64 t294)).heap[gb272]? = some (.cells #[.int .i64 4, .int .i64 9, .int .i64 1, .int .i64 2] 44 (0, 0))) := ⟨by (with_reducible repeat (first | refine blk_drewN ?_ _ | refine blk_drew ?_ | refine blk_alloc ?_ _)); refine blk_far ?_ NB272_296.out _; (with_reducible repeat (first | refine blk_drewN ?_ _ | refine blk_drew ?_ | refine blk_alloc ?_ _)); refine blk_far ?_ NB272_296.out _; (with_reducible repeat (first | refine blk_drewN ?_ _ | refine blk_drew ?_ | refine blk_alloc ?_ _)); refine blk_far ?_ NB272_296.out _; (with_reducible repeat (first | refine blk_drewN ?_ _ | refine blk_drew ?_ | refine blk_alloc ?_ _)); refine blk_far ?_ NB272_296.out _; (with_reducible repeat (first | refine blk_drewN ?_ _ | refine blk_drew ?_ | refine blk_alloc ?_ _)); exact BK272.out⟩
                                have n6_ : Aside0 (((((w36.setCell ⟨gb296, 0, none⟩ (.int .i64 t291)).setCell ⟨gb296, 1, none⟩ (.int .i64 t292)).setCell ⟨gb296, 2, none⟩ (.int .i64 t293)).setCell ⟨gb296, 3, none⟩ (.int .i64 t294)).heap[gb296]? = some (.cells #[.int .i64 t291, .int .i64 t292, .int .i64 t293, .int .i64 t294] 44 (0, 0))) := ⟨by (with_reducible repeat (first | refine blk_drewN ?_ _ | refine blk_drew ?_ | refine blk_alloc ?_ _)); refine blk_put (cs := #[.int .i64 t291, .int .i64 t292, .int .i64 t293, .int .i64 0]) ?_ 3 _ rfl; (with_reducible repeat (first | refine blk_drewN ?_ _ | refine blk_drew ?_ | refine blk_alloc ?_ _)); refine blk_put (cs := #[.int .i64 t291, .int .i64 t292, .int .i64 0, .int .i64 0]) ?_ 2 _ rfl; (with_reducible repeat (first | refine blk_drewN ?_ _ | refine blk_drew ?_ | refine blk_alloc ?_ _)); refine blk_put (cs := #[.int .i64 t291, .int .i64 0, .int .i64 0, .int .i64 0]) ?_ 1 _ rfl; (with_reducible repeat (first | refine blk_drewN ?_ _ | refine blk_drew ?_ | refine blk_alloc ?_ _)); refine blk_put (cs := #[.int .i64 0, .int .i64 0, .int .i64 0, .int .i64 0]) ?_ 0 _ rfl; (with_reducible repeat (first | refine blk_drewN ?_ _ | refine blk_drew ?_ | refine blk_alloc ?_ _)); exact BK296.out⟩
                                have n7_ : Aside0 (Below w.heap.size w ((((w36.setCell ⟨gb296, 0, none⟩ (.int .i64 t291)).setCell ⟨gb296, 1, none⟩ (.int .i64 t292)).setCell ⟨gb296, 2, none⟩ (.int .i64 t293)).setCell ⟨gb296, 3, none⟩ (.int .i64 t294))) := ⟨by repeat (first | (with_reducible first | exact HB.out | apply below_alloc | apply pw_below_drewN | apply below_drew1 | refine below_set ?_ GE271.out | refine below_set ?_ GE272.out | refine below_set ?_ GE296.out) | exact HB.out)⟩
                                (try clear HO275)
                                (try clear HO280)
                                (try clear HO285)
                                (try clear HO290)
                                (try clear BK271)
                                (try clear BK272)
                                (try clear BK296)
                                (try clear HB)
                                generalize ((((w36.setCell ⟨gb296, 0, none⟩ (.int .i64 t291)).setCell ⟨gb296, 1, none⟩ (.int .i64 t292)).setCell ⟨gb296, 2, none⟩ (.int .i64 t293)).setCell ⟨gb296, 3, none⟩ (.int .i64 t294)) = w40 at n0_ n1_ n2_ n3_ n4_ n5_ n6_ n7_ ⊢
                                have HO275 := n0_
                                have HO280 := n1_
                                have HO285 := n2_
                                have HO290 := n3_
                                have BK271 := n4_
                                have BK272 := n5_
                                have BK296 := n6_
                                have HB := n7_
                                clear n0_ n1_ n2_ n3_ n4_ n5_ n6_ n7_
                                have n0_ := Aside0.mk (Kd.R_drew HO275.out)
                                have n1_ := Aside0.mk (Kd.R_drew HO280.out)
                                have n2_ := Aside0.mk (Kd.R_drew HO285.out)
                                have n3_ := Aside0.mk (Kd.R_drew HO290.out)
                                have n4_ := Aside0.mk (blk_drew BK271.out)
                                have n5_ := Aside0.mk (blk_drew BK272.out)
                                have n6_ := Aside0.mk (blk_drew BK296.out)
                                have n7_ := Aside0.mk (below_drew1 HB.out)
                                clear HO275
                                clear HO280
                                clear HO285
                                clear HO290
                                clear BK271
                                clear BK272
                                clear BK296
                                clear HB
                                have HO275 := n0_
                                have HO280 := n1_
                                have HO285 := n2_
                                have HO290 := n3_
                                have BK271 := n4_
                                have BK272 := n5_
                                have BK296 := n6_
                                have HB := n7_
                                clear n0_ n1_ n2_ n3_ n4_ n5_ n6_ n7_
                                obtain ⟨Ao43, co43, eo43⟩ := Kd.R_slice HO280.out
                                (first | subst eo43 | (injection eo43 with f1_ f2_ f3_; have f4_ := f1_.symm; have f5_ := f3_.symm; clear f1_ f2_ f3_; subst f4_; subst f5_))
                                have p298 : 0 ≤ (0 : Int) := (by omega)
                                have q298 : 0 < (t276.length : Int) := of_decide_eq_true (by first | (with_reducible assumption) | assumption)
                                obtain ⟨ad298, e298, hx298_0, hx298_1, hx298_2, hx298_3⟩ := at_T44 (Kd.R_reads' HO280.out).2.2 0 p298 q298
                                cases e298
                                have qi298 : (0 < t276.length) = True := eq_true (by omega)
                                (try rw [show ((0 : Int)).toNat = 0 from rfl] at hx298_0)
                                (try rw [show 0 * 4 = 0 from rfl] at hx298_0)
                                (try rw [Addr.add_zero'] at hx298_0)
                                (try rw [show ((0 : Int)).toNat = 0 from rfl] at hx298_1)
                                (try rw [show 0 * 4 = 0 from rfl] at hx298_1)
                                (try rw [Addr.add_zero'] at hx298_1)
                                (try rw [show ((0 : Int)).toNat = 0 from rfl] at hx298_2)
                                (try rw [show 0 * 4 = 0 from rfl] at hx298_2)
                                (try rw [Addr.add_zero'] at hx298_2)
                                (try rw [show ((0 : Int)).toNat = 0 from rfl] at hx298_3)
                                (try rw [show 0 * 4 = 0 from rfl] at hx298_3)
                                (try rw [Addr.add_zero'] at hx298_3)
                                replace p298 := eq_true p298
                                replace q298 := eq_true q298
                                obtain ⟨Ao44, co44, eo44⟩ := Kd.R_slice HO285.out
                                (first | subst eo44 | (injection eo44 with f1_ f2_ f3_; have f4_ := f1_.symm; have f5_ := f3_.symm; clear f1_ f2_ f3_; subst f4_; subst f5_))
                                have p299 : 0 ≤ (0 : Int) := (by omega)
                                have q299 : 0 < (t281.length : Int) := of_decide_eq_true (by first | (with_reducible assumption) | assumption)
                                obtain ⟨ad299, e299, hx299_0, hx299_1, hx299_2, hx299_3⟩ := at_T44 (Kd.R_reads' HO285.out).2.2 0 p299 q299
                                cases e299
                                have qi299 : (0 < t281.length) = True := eq_true (by omega)
                                (try rw [show ((0 : Int)).toNat = 0 from rfl] at hx299_0)
                                (try rw [show 0 * 4 = 0 from rfl] at hx299_0)
                                (try rw [Addr.add_zero'] at hx299_0)
                                (try rw [show ((0 : Int)).toNat = 0 from rfl] at hx299_1)
                                (try rw [show 0 * 4 = 0 from rfl] at hx299_1)
                                (try rw [Addr.add_zero'] at hx299_1)
                                (try rw [show ((0 : Int)).toNat = 0 from rfl] at hx299_2)
                                (try rw [show 0 * 4 = 0 from rfl] at hx299_2)
                                (try rw [Addr.add_zero'] at hx299_2)
                                (try rw [show ((0 : Int)).toNat = 0 from rfl] at hx299_3)
                                (try rw [show 0 * 4 = 0 from rfl] at hx299_3)
                                (try rw [Addr.add_zero'] at hx299_3)
                                replace p299 := eq_true p299
                                replace q299 := eq_true q299
                                refine start_ (n := 67) (S := fun w' => w'.cell? ⟨gb271, 0, none⟩ = some (.int .i64 3) ∧ w'.cell? ⟨gb271, 1, none⟩ = some (.int .i64 9) ∧ w'.cell? ⟨gb271, 2, none⟩ = some (.int .i64 1) ∧ w'.cell? ⟨gb271, 3, none⟩ = some (.int .i64 2) ∧ w'.cell? ⟨gb272, 0, none⟩ = some (.int .i64 4) ∧ w'.cell? ⟨gb272, 1, none⟩ = some (.int .i64 9) ∧ w'.cell? ⟨gb272, 2, none⟩ = some (.int .i64 1) ∧ w'.cell? ⟨gb272, 3, none⟩ = some (.int .i64 2) ∧ w'.cell? ⟨gb296, 0, none⟩ = some (.int .i64 t291) ∧ w'.cell? ⟨gb296, 1, none⟩ = some (.int .i64 t292) ∧ w'.cell? ⟨gb296, 2, none⟩ = some (.int .i64 t293) ∧ w'.cell? ⟨gb296, 3, none⟩ = some (.int .i64 t294) ∧ w'.cell? ad298 = some (.int .i64 ((rd_T44 t276 0).f0.f0)) ∧ w'.cell? ⟨ad298.block, ad298.off + 1, none⟩ = some (.int .i64 ((rd_T44 t276 0).f0.f1)) ∧ w'.cell? ⟨ad298.block, ad298.off + 2, none⟩ = some (.int .i64 ((rd_T44 t276 0).f1)) ∧ w'.cell? ⟨ad298.block, ad298.off + 3, none⟩ = some (.int .i64 ((rd_T44 t276 0).f2)) ∧ w'.cell? ad299 = some (.int .i64 ((rd_T44 t281 0).f0.f0)) ∧ w'.cell? ⟨ad299.block, ad299.off + 1, none⟩ = some (.int .i64 ((rd_T44 t281 0).f0.f1)) ∧ w'.cell? ⟨ad299.block, ad299.off + 2, none⟩ = some (.int .i64 ((rd_T44 t281 0).f1)) ∧ w'.cell? ⟨ad299.block, ad299.off + 3, none⟩ = some (.int .i64 ((rd_T44 t281 0).f2))) (ds := []) #[false, false, false, false, false, false, false, false, false, false, false, false, false, false, false, false, false, false, false, false, false, false, false, false, false, false, false, false, false, false, false, false, false, false, false, false, false, false, false, false, false, false, false, false, false, false, false, false, false, false, false, false, false, false, false, false, false, false, false, false, false, false, false, false, false, false, false] (by kernel_rfl) rfl rfl ⟨(blk_cell BK271.out 0).trans rfl, (blk_cell BK271.out 1).trans rfl, (blk_cell BK271.out 2).trans rfl, (blk_cell BK271.out 3).trans rfl, (blk_cell BK272.out 0).trans rfl, (blk_cell BK272.out 1).trans rfl, (blk_cell BK272.out 2).trans rfl, (blk_cell BK272.out 3).trans rfl, (blk_cell BK296.out 0).trans rfl, (blk_cell BK296.out 1).trans rfl, (blk_cell BK296.out 2).trans rfl, (blk_cell BK296.out 3).trans rfl, hx298_0, hx298_1, hx298_2, hx298_3, hx299_0, hx299_1, hx299_2, hx299_3⟩ (fun hHeld => ?_); refine with_tabW afterglowlaw14_alive.tab8 afterglowlaw14_alive.bits8 (fun HT_ HW_ => ?_)
                                generalize w40.drew = w41 at HO275 HO280 HO285 HO290 BK271 BK272 BK296 HB hx298_0 hx298_1 hx298_2 hx298_3 hx299_0 hx299_1 hx299_2 hx299_3 hHeld ⊢
                                refine take_ (i := 0) (N := some 44) (v := ?_) (a' := ?_) #[true, false, false, false, false, false, false, false, false, false, false, false, false, false, false, false, false, false, false, false, false, false, false, false, false, false, false, false, false, false, false, false, false, false, false, false, false, false, false, false, false, false, false, false, false, false, false, false, false, false, false, false, false, false, false, false, false, false, false, false, false, false, false, false, false, false, false] rfl rfl (take_ofW HT_.out HW_.out (by kernel_rfl)) (fun _ _ _ h => h) (Or.inl ⟨by rfl, ?_⟩) hHeld ?_ ?_
                                rotate_left
                                · rintro w' ⟨s0, s1, s2, s3, s4, s5, s6, s7, s8, s9, s10, s11, s12, s13, s14, s15, s16, s17, s18, s19⟩
                                  go_simp
                                  with_reducible rfl
                                rotate_left
                                · simp only [Act.put, List.setIfInBounds_toArray, List.set_cons_zero, List.set_cons_succ, i64_w, i32_w]
                                  rfl
                                refine one_ (i := 1) (N := some 45) #[true, true, false, false, false, false, false, false, false, false, false, false, false, false, false, false, false, false, false, false, false, false, false, false, false, false, false, false, false, false, false, false, false, false, false, false, false, false, false, false, false, false, false, false, false, false, false, false, false, false, false, false, false, false, false, false, false, false, false, false, false, false, false, false, false, false, false] rfl rfl (one_of HT_.out (by kernel_rfl)) (by decide) (fun K hK => ?_)
                                refine goes_ Tryd.func29 (by kernel_rfl) rfl #[.agg #[.int .i64 3, .int .i64 9, .int .i64 1, .int .i64 2]] (by rfl) rfl rfl (by (try simp only [List.map_toArray, List.map_cons, List.map_nil]); first | done | rfl | (simp only [List.length_drop, List.length_take]; rfl)) ?_
                                with_reducible refine (page_Key.calls 3 9 1 2 t297 _ ?side1 A5.out).mono ?_
                                (case side1 => exact ⟨Good.below hG.out (by repeat (first | (with_reducible first | exact HB.out | apply below_alloc | apply pw_below_drewN | apply below_drew1 | refine below_set ?_ GE271.out | refine below_set ?_ GE272.out | refine below_set ?_ GE296.out) | exact HB.out))⟩)
                                rintro e w42 ⟨rfl, hb⟩
                                have HS12_ := (hb.cell (World.block_lt_of_cell? _ _ (hHeld.2.2.2.2.2.2.2.2.2.2.2.2.1))).trans (hHeld.2.2.2.2.2.2.2.2.2.2.2.2.1)
                                have HS13_ := (hb.cell (World.block_lt_of_cell? _ _ (hHeld.2.2.2.2.2.2.2.2.2.2.2.2.2.1))).trans (hHeld.2.2.2.2.2.2.2.2.2.2.2.2.2.1)
                                have HS14_ := (hb.cell (World.block_lt_of_cell? _ _ (hHeld.2.2.2.2.2.2.2.2.2.2.2.2.2.2.1))).trans (hHeld.2.2.2.2.2.2.2.2.2.2.2.2.2.2.1)
                                have HS15_ := (hb.cell (World.block_lt_of_cell? _ _ (hHeld.2.2.2.2.2.2.2.2.2.2.2.2.2.2.2.1))).trans (hHeld.2.2.2.2.2.2.2.2.2.2.2.2.2.2.2.1)
                                have HS16_ := (hb.cell (World.block_lt_of_cell? _ _ (hHeld.2.2.2.2.2.2.2.2.2.2.2.2.2.2.2.2.1))).trans (hHeld.2.2.2.2.2.2.2.2.2.2.2.2.2.2.2.2.1)
                                have HS17_ := (hb.cell (World.block_lt_of_cell? _ _ (hHeld.2.2.2.2.2.2.2.2.2.2.2.2.2.2.2.2.2.1))).trans (hHeld.2.2.2.2.2.2.2.2.2.2.2.2.2.2.2.2.2.1)
                                have HS18_ := (hb.cell (World.block_lt_of_cell? _ _ (hHeld.2.2.2.2.2.2.2.2.2.2.2.2.2.2.2.2.2.2.1))).trans (hHeld.2.2.2.2.2.2.2.2.2.2.2.2.2.2.2.2.2.2.1)
                                have HS19_ := (hb.cell (World.block_lt_of_cell? _ _ (hHeld.2.2.2.2.2.2.2.2.2.2.2.2.2.2.2.2.2.2.2))).trans (hHeld.2.2.2.2.2.2.2.2.2.2.2.2.2.2.2.2.2.2.2)
                                refine ⟨_, rfl, ?_⟩
                                have n0_ := Aside0.mk (Kd.R_below (by (with_reducible repeat (first | apply Kd.R_alloc | apply Kd.R_drewN | apply Kd.R_drew)); exact HO275.out) hb)
                                have n1_ := Aside0.mk (Kd.R_below (by (with_reducible repeat (first | apply Kd.R_alloc | apply Kd.R_drewN | apply Kd.R_drew)); exact HO280.out) hb)
                                have n2_ := Aside0.mk (Kd.R_below (by (with_reducible repeat (first | apply Kd.R_alloc | apply Kd.R_drewN | apply Kd.R_drew)); exact HO285.out) hb)
                                have n3_ := Aside0.mk (Kd.R_below (by (with_reducible repeat (first | apply Kd.R_alloc | apply Kd.R_drewN | apply Kd.R_drew)); exact HO290.out) hb)
                                have n4_ := Aside0.mk (blk_below (g := gb271) (o := .cells #[.int .i64 3, .int .i64 9, .int .i64 1, .int .i64 2] 44 (0, 0)) (by (with_reducible repeat (first | refine blk_drewN ?_ _ | refine blk_drew ?_ | refine blk_alloc ?_ _)); exact BK271.out) hb)
                                have n5_ := Aside0.mk (blk_below (g := gb272) (o := .cells #[.int .i64 4, .int .i64 9, .int .i64 1, .int .i64 2] 44 (0, 0)) (by (with_reducible repeat (first | refine blk_drewN ?_ _ | refine blk_drew ?_ | refine blk_alloc ?_ _)); exact BK272.out) hb)
                                have n6_ := Aside0.mk (blk_below (g := gb296) (o := .cells #[.int .i64 t291, .int .i64 t292, .int .i64 t293, .int .i64 t294] 44 (0, 0)) (by (with_reducible repeat (first | refine blk_drewN ?_ _ | refine blk_drew ?_ | refine blk_alloc ?_ _)); exact BK296.out) hb)
                                have n7_ := Aside0.mk (below_step (by repeat (first | (with_reducible first | exact HB.out | apply below_alloc | apply pw_below_drewN | apply below_drew1 | refine below_set ?_ GE271.out | refine below_set ?_ GE272.out | refine below_set ?_ GE296.out) | exact HB.out)) hb)
                                clear HO275
                                clear HO280
                                clear HO285
                                clear HO290
                                clear BK271
                                clear BK272
                                clear BK296
                                clear HB
                                have HO275 := n0_
                                have HO280 := n1_
                                have HO285 := n2_
                                have HO290 := n3_
                                have BK271 := n4_
                                have BK272 := n5_
                                have BK296 := n6_
                                have HB := n7_
                                clear n0_ n1_ n2_ n3_ n4_ n5_ n6_ n7_
                                (try clear hb)
                                (try clear hb2)
                                (try clear hk)
                                (try clear hi)
                                refine hK.out _ _ ⟨(blk_cell BK271.out 0).trans rfl, (blk_cell BK271.out 1).trans rfl, (blk_cell BK271.out 2).trans rfl, (blk_cell BK271.out 3).trans rfl, (blk_cell BK272.out 0).trans rfl, (blk_cell BK272.out 1).trans rfl, (blk_cell BK272.out 2).trans rfl, (blk_cell BK272.out 3).trans rfl, (blk_cell BK296.out 0).trans rfl, (blk_cell BK296.out 1).trans rfl, (blk_cell BK296.out 2).trans rfl, (blk_cell BK296.out 3).trans rfl, HS12_, HS13_, HS14_, HS15_, HS16_, HS17_, HS18_, HS19_⟩ (fun hHeld => ?_)
                                clear hK K
                                refine norm_ (a' := ?_) ?_ ?_
                                rotate_left
                                · show Act.put _ (some 45) _ = _
                                  simp only [Act.put, List.setIfInBounds_toArray, List.set_cons_zero, List.set_cons_succ, i64_w, i32_w]
                                  rfl
                                refine pure_ (i := 2) (N := some 46) (v := ?_) (a' := ?_) #[true, true, true, false, false, false, false, false, false, false, false, false, false, false, false, false, false, false, false, false, false, false, false, false, false, false, false, false, false, false, false, false, false, false, false, false, false, false, false, false, false, false, false, false, false, false, false, false, false, false, false, false, false, false, false, false, false, false, false, false, false, false, false, false, false, false, false] rfl rfl (any_of HT_.out (by kernel_rfl)) (fun _ _ _ h => h) (Or.inl ⟨by rfl, ?_⟩) ?_ ?_
                                rotate_left
                                · intro w'
                                  go_simp
                                  with_reducible rfl
                                rotate_left
                                · simp only [Act.put, List.setIfInBounds_toArray, List.set_cons_zero, List.set_cons_succ, i64_w, i32_w]
                                  rfl
                                refine pure_ (i := 3) (N := some 47) (v := ?_) (a' := ?_) #[true, true, true, true, false, false, false, false, false, false, false, false, false, false, false, false, false, false, false, false, false, false, false, false, false, false, false, false, false, false, false, false, false, false, false, false, false, false, false, false, false, false, false, false, false, false, false, false, false, false, false, false, false, false, false, false, false, false, false, false, false, false, false, false, false, false, false] rfl rfl (any_of HT_.out (by kernel_rfl)) (fun _ _ _ h => h) (Or.inl ⟨by rfl, ?_⟩) ?_ ?_
                                rotate_left
                                · intro w'
                                  go_simp
                                  with_reducible rfl
                                rotate_left
                                · simp only [Act.put, List.setIfInBounds_toArray, List.set_cons_zero, List.set_cons_succ, i64_w, i32_w]
                                  rfl
                                refine pure_ (i := 4) (N := some 48) (v := ?_) (a' := ?_) #[true, true, true, true, true, false, false, false, false, false, false, false, false, false, false, false, false, false, false, false, false, false, false, false, false, false, false, false, false, false, false, false, false, false, false, false, false, false, false, false, false, false, false, false, false, false, false, false, false, false, false, false, false, false, false, false, false, false, false, false, false, false, false, false, false, false, false] rfl rfl (any_of HT_.out (by kernel_rfl)) (fun _ _ _ h => h) (Or.inl ⟨by rfl, ?_⟩) ?_ ?_
                                rotate_left
                                · intro w'
                                  go_simp
                                  with_reducible rfl
                                rotate_left
                                · simp only [Act.put, List.setIfInBounds_toArray, List.set_cons_zero, List.set_cons_succ, i64_w, i32_w]
                                  rfl
                                refine pure_ (i := 5) (N := some 49) (v := ?_) (a' := ?_) #[true, true, true, true, true, true, false, false, false, false, false, false, false, false, false, false, false, false, false, false, false, false, false, false, false, false, false, false, false, false, false, false, false, false, false, false, false, false, false, false, false, false, false, false, false, false, false, false, false, false, false, false, false, false, false, false, false, false, false, false, false, false, false, false, false, false, false] rfl rfl (any_of HT_.out (by kernel_rfl)) (fun _ _ _ h => h) (Or.inl ⟨by rfl, ?_⟩) ?_ ?_
                                rotate_left
                                · intro w'
                                  go_simp
                                  with_reducible rfl
                                rotate_left
                                · simp only [Act.put, List.setIfInBounds_toArray, List.set_cons_zero, List.set_cons_succ, i64_w, i32_w]
                                  rfl
                                refine pure_ (i := 6) (N := some 50) (v := ?_) (a' := ?_) #[true, true, true, true, true, true, true, false, false, false, false, false, false, false, false, false, false, false, false, false, false, false, false, false, false, false, false, false, false, false, false, false, false, false, false, false, false, false, false, false, false, false, false, false, false, false, false, false, false, false, false, false, false, false, false, false, false, false, false, false, false, false, false, false, false, false, false] rfl rfl (any_of HT_.out (by kernel_rfl)) (fun _ _ _ h => h) (Or.inl ⟨by rfl, ?_⟩) ?_ ?_
                                rotate_left
                                · intro w'
                                  go_simp
                                  with_reducible rfl
                                rotate_left
                                · simp only [Act.put, List.setIfInBounds_toArray, List.set_cons_zero, List.set_cons_succ, i64_w, i32_w]
                                  rfl
                                refine pure_ (i := 7) (N := some 51) (v := ?_) (a' := ?_) #[true, true, true, true, true, true, true, true, false, false, false, false, false, false, false, false, false, false, false, false, false, false, false, false, false, false, false, false, false, false, false, false, false, false, false, false, false, false, false, false, false, false, false, false, false, false, false, false, false, false, false, false, false, false, false, false, false, false, false, false, false, false, false, false, false, false, false] rfl rfl (any_of HT_.out (by kernel_rfl)) (fun _ _ _ h => h) (Or.inl ⟨by rfl, ?_⟩) ?_ ?_
                                rotate_left
                                · intro w'
                                  go_simp
                                  with_reducible rfl
                                rotate_left
                                · simp only [Act.put, List.setIfInBounds_toArray, List.set_cons_zero, List.set_cons_succ, i64_w, i32_w]
                                  rfl
                                refine pure_ (i := 8) (N := some 52) (v := ?_) (a' := ?_) #[true, true, true, true, true, true, true, true, true, false, false, false, false, false, false, false, false, false, false, false, false, false, false, false, false, false, false, false, false, false, false, false, false, false, false, false, false, false, false, false, false, false, false, false, false, false, false, false, false, false, false, false, false, false, false, false, false, false, false, false, false, false, false, false, false, false, false] rfl rfl (any_of HT_.out (by kernel_rfl)) (fun _ _ _ h => h) (Or.inl ⟨by rfl, ?_⟩) ?_ ?_
                                rotate_left
                                · intro w'
                                  go_simp
                                  with_reducible rfl
                                rotate_left
                                · simp only [Act.put, List.setIfInBounds_toArray, List.set_cons_zero, List.set_cons_succ, i64_w, i32_w]
                                  rfl
                                refine pure_ (i := 9) (N := some 53) (v := ?_) (a' := ?_) #[true, true, true, true, true, true, true, true, true, true, false, false, false, false, false, false, false, false, false, false, false, false, false, false, false, false, false, false, false, false, false, false, false, false, false, false, false, false, false, false, false, false, false, false, false, false, false, false, false, false, false, false, false, false, false, false, false, false, false, false, false, false, false, false, false, false, false] rfl rfl (any_of HT_.out (by kernel_rfl)) (fun _ _ _ h => h) (Or.inl ⟨by rfl, ?_⟩) ?_ ?_
                                rotate_left
                                · intro w'
                                  go_simp
                                  with_reducible rfl
                                rotate_left
                                · simp only [Act.put, List.setIfInBounds_toArray, List.set_cons_zero, List.set_cons_succ, i64_w, i32_w]
                                  rfl
                                refine pure_ (i := 10) (N := some 54) (v := ?_) (a' := ?_) #[true, true, true, true, true, true, true, true, true, true, true, false, false, false, false, false, false, false, false, false, false, false, false, false, false, false, false, false, false, false, false, false, false, false, false, false, false, false, false, false, false, false, false, false, false, false, false, false, false, false, false, false, false, false, false, false, false, false, false, false, false, false, false, false, false, false, false] rfl rfl (any_of HT_.out (by kernel_rfl)) (fun _ _ _ h => h) (Or.inl ⟨by rfl, ?_⟩) ?_ ?_
                                rotate_left
                                · intro w'
                                  go_simp
                                  with_reducible rfl
                                rotate_left
                                · simp only [Act.put, List.setIfInBounds_toArray, List.set_cons_zero, List.set_cons_succ, i64_w, i32_w]
                                  rfl
                                refine pure_ (i := 11) (N := some 55) (v := ?_) (a' := ?_) #[true, true, true, true, true, true, true, true, true, true, true, true, false, false, false, false, false, false, false, false, false, false, false, false, false, false, false, false, false, false, false, false, false, false, false, false, false, false, false, false, false, false, false, false, false, false, false, false, false, false, false, false, false, false, false, false, false, false, false, false, false, false, false, false, false, false, false] rfl rfl (any_of HT_.out (by kernel_rfl)) (fun _ _ _ h => h) (Or.inl ⟨by rfl, ?_⟩) ?_ ?_
                                rotate_left
                                · intro w'
                                  go_simp
                                  with_reducible rfl
                                rotate_left
                                · simp only [Act.put, List.setIfInBounds_toArray, List.set_cons_zero, List.set_cons_succ, i64_w, i32_w]
                                  rfl
                                refine pure_ (i := 12) (N := some 56) (v := ?_) (a' := ?_) #[true, true, true, true, true, true, true, true, true, true, true, true, true, false, false, false, false, false, false, false, false, false, false, false, false, false, false, false, false, false, false, false, false, false, false, false, false, false, false, false, false, false, false, false, false, false, false, false, false, false, false, false, false, false, false, false, false, false, false, false, false, false, false, false, false, false, false] rfl rfl (any_of HT_.out (by kernel_rfl)) (fun _ _ _ h => h) (Or.inl ⟨by rfl, ?_⟩) ?_ ?_
                                rotate_left
                                · intro w'
                                  go_simp
                                  with_reducible rfl
                                rotate_left
                                · simp only [Act.put, List.setIfInBounds_toArray, List.set_cons_zero, List.set_cons_succ, i64_w, i32_w]
                                  rfl
                                refine pure_ (i := 13) (N := some 57) (v := ?_) (a' := ?_) #[true, true, true, true, true, true, true, true, true, true, true, true, true, true, false, false, false, false, false, false, false, false, false, false, false, false, false, false, false, false, false, false, false, false, false, false, false, false, false, false, false, false, false, false, false, false, false, false, false, false, false, false, false, false, false, false, false, false, false, false, false, false, false, false, false, false, false] rfl rfl (any_of HT_.out (by kernel_rfl)) (fun _ _ _ h => h) (Or.inl ⟨by rfl, ?_⟩) ?_ ?_
                                rotate_left
                                · intro w'
                                  go_simp
                                  with_reducible rfl
                                rotate_left
                                · simp only [Act.put, List.setIfInBounds_toArray, List.set_cons_zero, List.set_cons_succ, i64_w, i32_w]
                                  rfl
                                refine pure_ (i := 14) (N := some 58) (v := ?_) (a' := ?_) #[true, true, true, true, true, true, true, true, true, true, true, true, true, true, true, false, false, false, false, false, false, false, false, false, false, false, false, false, false, false, false, false, false, false, false, false, false, false, false, false, false, false, false, false, false, false, false, false, false, false, false, false, false, false, false, false, false, false, false, false, false, false, false, false, false, false, false] rfl rfl (any_of HT_.out (by kernel_rfl)) (fun _ _ _ h => h) (Or.inl ⟨by rfl, ?_⟩) ?_ ?_
                                rotate_left
                                · intro w'
                                  go_simp
                                  with_reducible rfl
                                rotate_left
                                · simp only [Act.put, List.setIfInBounds_toArray, List.set_cons_zero, List.set_cons_succ, i64_w, i32_w]
                                  rfl
                                refine take_ (i := 15) (N := some 59) (v := ?_) (a' := ?_) #[true, true, true, true, true, true, true, true, true, true, true, true, true, true, true, true, false, false, false, false, false, false, false, false, false, false, false, false, false, false, false, false, false, false, false, false, false, false, false, false, false, false, false, false, false, false, false, false, false, false, false, false, false, false, false, false, false, false, false, false, false, false, false, false, false, false, false] rfl rfl (take_ofW HT_.out HW_.out (by kernel_rfl)) (fun _ _ _ h => h) (Or.inl ⟨by rfl, ?_⟩) hHeld ?_ ?_
                                rotate_left
                                · rintro w' ⟨s0, s1, s2, s3, s4, s5, s6, s7, s8, s9, s10, s11, s12, s13, s14, s15, s16, s17, s18, s19⟩
                                  go_simp
                                  with_reducible rfl
                                rotate_left
                                · simp only [Act.put, List.setIfInBounds_toArray, List.set_cons_zero, List.set_cons_succ, i64_w, i32_w]
                                  rfl
                                refine take_ (i := 16) (N := some 60) (v := ?_) (a' := ?_) #[true, true, true, true, true, true, true, true, true, true, true, true, true, true, true, true, true, false, false, false, false, false, false, false, false, false, false, false, false, false, false, false, false, false, false, false, false, false, false, false, false, false, false, false, false, false, false, false, false, false, false, false, false, false, false, false, false, false, false, false, false, false, false, false, false, false, false] rfl rfl (take_ofW HT_.out HW_.out (by kernel_rfl)) (fun _ _ _ h => h) (Or.inl ⟨by rfl, ?_⟩) hHeld ?_ ?_
                                rotate_left
                                · rintro w' ⟨s0, s1, s2, s3, s4, s5, s6, s7, s8, s9, s10, s11, s12, s13, s14, s15, s16, s17, s18, s19⟩
                                  go_simp
                                  with_reducible rfl
                                rotate_left
                                · simp only [Act.put, List.setIfInBounds_toArray, List.set_cons_zero, List.set_cons_succ, i64_w, i32_w]
                                  rfl
                                refine pure_ (i := 17) (N := some 61) (v := ?_) (a' := ?_) #[true, true, true, true, true, true, true, true, true, true, true, true, true, true, true, true, true, true, false, false, false, false, false, false, false, false, false, false, false, false, false, false, false, false, false, false, false, false, false, false, false, false, false, false, false, false, false, false, false, false, false, false, false, false, false, false, false, false, false, false, false, false, false, false, false, false, false] rfl rfl (any_of HT_.out (by kernel_rfl)) (fun _ _ _ h => h) (Or.inl ⟨by rfl, ?_⟩) ?_ ?_
                                rotate_left
                                · intro w'
                                  go_simp
                                  with_reducible rfl
                                rotate_left
                                · simp only [Act.put, List.setIfInBounds_toArray, List.set_cons_zero, List.set_cons_succ, i64_w, i32_w]
                                  rfl
                                refine pure_ (i := 18) (N := some 62) (v := ?_) (a' := ?_) #[true, true, true, true, true, true, true, true, true, true, true, true, true, true, true, true, true, true, true, false, false, false, false, false, false, false, false, false, false, false, false, false, false, false, false, false, false, false, false, false, false, false, false, false, false, false, false, false, false, false, false, false, false, false, false, false, false, false, false, false, false, false, false, false, false, false, false] rfl rfl (any_of HT_.out (by kernel_rfl)) (fun _ _ _ h => h) (Or.inl ⟨by rfl, ?_⟩) ?_ ?_
                                rotate_left
                                · intro w'
                                  go_simp
                                  with_reducible rfl
                                rotate_left
                                · simp only [Act.put, List.setIfInBounds_toArray, List.set_cons_zero, List.set_cons_succ, i64_w, i32_w]
                                  rfl
                                refine pure_ (i := 19) (N := some 63) (v := ?_) (a' := ?_) #[true, true, true, true, true, true, true, true, true, true, true, true, true, true, true, true, true, true, true, true, false, false, false, false, false, false, false, false, false, false, false, false, false, false, false, false, false, false, false, false, false, false, false, false, false, false, false, false, false, false, false, false, false, false, false, false, false, false, false, false, false, false, false, false, false, false, false] rfl rfl (any_of HT_.out (by kernel_rfl)) (fun _ _ _ h => h) (Or.inl ⟨by rfl, ?_⟩) ?_ ?_
                                rotate_left
                                · intro w'
                                  go_simp
                                  with_reducible rfl
                                rotate_left
                                · simp only [Act.put, List.setIfInBounds_toArray, List.set_cons_zero, List.set_cons_succ, i64_w, i32_w]
                                  rfl
                                refine pure_ (i := 20) (N := some 64) (v := ?_) (a' := ?_) #[true, true, true, true, true, true, true, true, true, true, true, true, true, true, true, true, true, true, true, true, true, false, false, false, false, false, false, false, false, false, false, false, false, false, false, false, false, false, false, false, false, false, false, false, false, false, false, false, false, false, false, false, false, false, false, false, false, false, false, false, false, false, false, false, false, false, false] rfl rfl (any_of HT_.out (by kernel_rfl)) (fun _ _ _ h => h) (Or.inl ⟨by rfl, ?_⟩) ?_ ?_
                                rotate_left
                                · intro w'
                                  go_simp
                                  with_reducible rfl
                                rotate_left
                                · simp only [Act.put, List.setIfInBounds_toArray, List.set_cons_zero, List.set_cons_succ, i64_w, i32_w]
                                  rfl
                                refine pure_ (i := 21) (N := some 65) (v := ?_) (a' := ?_) #[true, true, true, true, true, true, true, true, true, true, true, true, true, true, true, true, true, true, true, true, true, true, false, false, false, false, false, false, false, false, false, false, false, false, false, false, false, false, false, false, false, false, false, false, false, false, false, false, false, false, false, false, false, false, false, false, false, false, false, false, false, false, false, false, false, false, false] rfl rfl (any_of HT_.out (by kernel_rfl)) (fun _ _ _ h => h) (Or.inl ⟨by rfl, ?_⟩) ?_ ?_
                                rotate_left
                                · intro w'
                                  go_simp
                                  with_reducible rfl
                                rotate_left
                                · simp only [Act.put, List.setIfInBounds_toArray, List.set_cons_zero, List.set_cons_succ, i64_w, i32_w]
                                  rfl
                                refine pure_ (i := 22) (N := some 66) (v := ?_) (a' := ?_) #[true, true, true, true, true, true, true, true, true, true, true, true, true, true, true, true, true, true, true, true, true, true, true, false, false, false, false, false, false, false, false, false, false, false, false, false, false, false, false, false, false, false, false, false, false, false, false, false, false, false, false, false, false, false, false, false, false, false, false, false, false, false, false, false, false, false, false] rfl rfl (any_of HT_.out (by kernel_rfl)) (fun _ _ _ h => h) (Or.inl ⟨by rfl, ?_⟩) ?_ ?_
                                rotate_left
                                · intro w'
                                  go_simp
                                  with_reducible rfl
                                rotate_left
                                · simp only [Act.put, List.setIfInBounds_toArray, List.set_cons_zero, List.set_cons_succ, i64_w, i32_w]
                                  rfl
                                refine pure_ (i := 23) (N := some 67) (v := ?_) (a' := ?_) #[true, true, true, true, true, true, true, true, true, true, true, true, true, true, true, true, true, true, true, true, true, true, true, true, false, false, false, false, false, false, false, false, false, false, false, false, false, false, false, false, false, false, false, false, false, false, false, false, false, false, false, false, false, false, false, false, false, false, false, false, false, false, false, false, false, false, false] rfl rfl (any_of HT_.out (by kernel_rfl)) (fun _ _ _ h => h) (Or.inl ⟨by rfl, ?_⟩) ?_ ?_
                                rotate_left
                                · intro w'
                                  go_simp
                                  with_reducible rfl
                                rotate_left
                                · simp only [Act.put, List.setIfInBounds_toArray, List.set_cons_zero, List.set_cons_succ, i64_w, i32_w]
                                  rfl
                                refine pure_ (i := 24) (N := some 68) (v := ?_) (a' := ?_) #[true, true, true, true, true, true, true, true, true, true, true, true, true, true, true, true, true, true, true, true, true, true, true, true, true, false, false, false, false, false, false, false, false, false, false, false, false, false, false, false, false, false, false, false, false, false, false, false, false, false, false, false, false, false, false, false, false, false, false, false, false, false, false, false, false, false, false] rfl rfl (any_of HT_.out (by kernel_rfl)) (fun _ _ _ h => h) (Or.inl ⟨by rfl, ?_⟩) ?_ ?_
                                rotate_left
                                · intro w'
                                  go_simp
                                  with_reducible rfl
                                rotate_left
                                · simp only [Act.put, List.setIfInBounds_toArray, List.set_cons_zero, List.set_cons_succ, i64_w, i32_w]
                                  rfl
                                refine pure_ (i := 25) (N := some 69) (v := ?_) (a' := ?_) #[true, true, true, true, true, true, true, true, true, true, true, true, true, true, true, true, true, true, true, true, true, true, true, true, true, true, false, false, false, false, false, false, false, false, false, false, false, false, false, false, false, false, false, false, false, false, false, false, false, false, false, false, false, false, false, false, false, false, false, false, false, false, false, false, false, false, false] rfl rfl (any_of HT_.out (by kernel_rfl)) (fun _ _ _ h => h) (Or.inl ⟨by rfl, ?_⟩) ?_ ?_
                                rotate_left
                                · intro w'
                                  go_simp
                                  with_reducible rfl
                                rotate_left
                                · simp only [Act.put, List.setIfInBounds_toArray, List.set_cons_zero, List.set_cons_succ, i64_w, i32_w]
                                  rfl
                                refine pure_ (i := 26) (N := some 70) (v := ?_) (a' := ?_) #[true, true, true, true, true, true, true, true, true, true, true, true, true, true, true, true, true, true, true, true, true, true, true, true, true, true, true, false, false, false, false, false, false, false, false, false, false, false, false, false, false, false, false, false, false, false, false, false, false, false, false, false, false, false, false, false, false, false, false, false, false, false, false, false, false, false, false] rfl rfl (any_of HT_.out (by kernel_rfl)) (fun _ _ _ h => h) (Or.inl ⟨by rfl, ?_⟩) ?_ ?_
                                rotate_left
                                · intro w'
                                  go_simp
                                  with_reducible rfl
                                rotate_left
                                · simp only [Act.put, List.setIfInBounds_toArray, List.set_cons_zero, List.set_cons_succ, i64_w, i32_w]
                                  rfl
                                refine pure_ (i := 27) (N := some 71) (v := ?_) (a' := ?_) #[true, true, true, true, true, true, true, true, true, true, true, true, true, true, true, true, true, true, true, true, true, true, true, true, true, true, true, true, false, false, false, false, false, false, false, false, false, false, false, false, false, false, false, false, false, false, false, false, false, false, false, false, false, false, false, false, false, false, false, false, false, false, false, false, false, false, false] rfl rfl (any_of HT_.out (by kernel_rfl)) (fun _ _ _ h => h) (Or.inl ⟨by rfl, ?_⟩) ?_ ?_
                                rotate_left
                                · intro w'
                                  go_simp
                                  with_reducible rfl
                                rotate_left
                                · simp only [Act.put, List.setIfInBounds_toArray, List.set_cons_zero, List.set_cons_succ, i64_w, i32_w]
                                  rfl
                                refine pure_ (i := 28) (N := some 72) (v := ?_) (a' := ?_) #[true, true, true, true, true, true, true, true, true, true, true, true, true, true, true, true, true, true, true, true, true, true, true, true, true, true, true, true, true, false, false, false, false, false, false, false, false, false, false, false, false, false, false, false, false, false, false, false, false, false, false, false, false, false, false, false, false, false, false, false, false, false, false, false, false, false, false] rfl rfl (any_of HT_.out (by kernel_rfl)) (fun _ _ _ h => h) (Or.inl ⟨by rfl, ?_⟩) ?_ ?_
                                rotate_left
                                · intro w'
                                  go_simp
                                  with_reducible rfl
                                rotate_left
                                · simp only [Act.put, List.setIfInBounds_toArray, List.set_cons_zero, List.set_cons_succ, i64_w, i32_w]
                                  rfl
                                refine pure_ (i := 29) (N := some 73) (v := ?_) (a' := ?_) #[true, true, true, true, true, true, true, true, true, true, true, true, true, true, true, true, true, true, true, true, true, true, true, true, true, true, true, true, true, true, false, false, false, false, false, false, false, false, false, false, false, false, false, false, false, false, false, false, false, false, false, false, false, false, false, false, false, false, false, false, false, false, false, false, false, false, false] rfl rfl (any_of HT_.out (by kernel_rfl)) (fun _ _ _ h => h) (Or.inl ⟨by rfl, ?_⟩) ?_ ?_
                                rotate_left
                                · intro w'
                                  go_simp
                                  with_reducible rfl
                                rotate_left
                                · simp only [Act.put, List.setIfInBounds_toArray, List.set_cons_zero, List.set_cons_succ, i64_w, i32_w]
                                  rfl
                                refine pure_ (i := 30) (N := some 74) (v := ?_) (a' := ?_) #[true, true, true, true, true, true, true, true, true, true, true, true, true, true, true, true, true, true, true, true, true, true, true, true, true, true, true, true, true, true, true, false, false, false, false, false, false, false, false, false, false, false, false, false, false, false, false, false, false, false, false, false, false, false, false, false, false, false, false, false, false, false, false, false, false, false, false] rfl rfl (any_of HT_.out (by kernel_rfl)) (fun _ _ _ h => h) (Or.inl ⟨by rfl, ?_⟩) ?_ ?_
                                rotate_left
                                · intro w'
                                  go_simp
                                  with_reducible rfl
                                rotate_left
                                · simp only [Act.put, List.setIfInBounds_toArray, List.set_cons_zero, List.set_cons_succ, i64_w, i32_w]
                                  rfl
                                refine pure_ (i := 31) (N := some 75) (v := ?_) (a' := ?_) #[true, true, true, true, true, true, true, true, true, true, true, true, true, true, true, true, true, true, true, true, true, true, true, true, true, true, true, true, true, true, true, true, false, false, false, false, false, false, false, false, false, false, false, false, false, false, false, false, false, false, false, false, false, false, false, false, false, false, false, false, false, false, false, false, false, false, false] rfl rfl (any_of HT_.out (by kernel_rfl)) (fun _ _ _ h => h) (Or.inl ⟨by rfl, ?_⟩) ?_ ?_
                                rotate_left
                                · intro w'
                                  go_simp
                                  with_reducible rfl
                                rotate_left
                                · simp only [Act.put, List.setIfInBounds_toArray, List.set_cons_zero, List.set_cons_succ, i64_w, i32_w]
                                  rfl
                                refine pure_ (i := 32) (N := some 76) (v := ?_) (a' := ?_) #[true, true, true, true, true, true, true, true, true, true, true, true, true, true, true, true, true, true, true, true, true, true, true, true, true, true, true, true, true, true, true, true, true, false, false, false, false, false, false, false, false, false, false, false, false, false, false, false, false, false, false, false, false, false, false, false, false, false, false, false, false, false, false, false, false, false, false] rfl rfl (any_of HT_.out (by kernel_rfl)) (fun _ _ _ h => h) (Or.inl ⟨by rfl, ?_⟩) ?_ ?_
                                rotate_left
                                · intro w'
                                  go_simp
                                  with_reducible rfl
                                rotate_left
                                · simp only [Act.put, List.setIfInBounds_toArray, List.set_cons_zero, List.set_cons_succ, i64_w, i32_w]
                                  rfl
                                refine pure_ (i := 33) (N := some 77) (v := ?_) (a' := ?_) #[true, true, true, true, true, true, true, true, true, true, true, true, true, true, true, true, true, true, true, true, true, true, true, true, true, true, true, true, true, true, true, true, true, true, false, false, false, false, false, false, false, false, false, false, false, false, false, false, false, false, false, false, false, false, false, false, false, false, false, false, false, false, false, false, false, false, false] rfl rfl (any_of HT_.out (by kernel_rfl)) (fun _ _ _ h => h) (Or.inl ⟨by rfl, ?_⟩) ?_ ?_
                                rotate_left
                                · intro w'
                                  go_simp
                                  with_reducible rfl
                                rotate_left
                                · simp only [Act.put, List.setIfInBounds_toArray, List.set_cons_zero, List.set_cons_succ, i64_w, i32_w]
                                  rfl
                                refine pure_ (i := 34) (N := some 78) (v := ?_) (a' := ?_) #[true, true, true, true, true, true, true, true, true, true, true, true, true, true, true, true, true, true, true, true, true, true, true, true, true, true, true, true, true, true, true, true, true, true, true, false, false, false, false, false, false, false, false, false, false, false, false, false, false, false, false, false, false, false, false, false, false, false, false, false, false, false, false, false, false, false, false] rfl rfl (any_of HT_.out (by kernel_rfl)) (fun _ _ _ h => h) (Or.inl ⟨by rfl, ?_⟩) ?_ ?_
                                rotate_left
                                · intro w'
                                  go_simp
                                  with_reducible rfl
                                rotate_left
                                · simp only [Act.put, List.setIfInBounds_toArray, List.set_cons_zero, List.set_cons_succ, i64_w, i32_w]
                                  rfl
                                refine take_ (i := 35) (N := some 79) (v := ?_) (a' := ?_) #[true, true, true, true, true, true, true, true, true, true, true, true, true, true, true, true, true, true, true, true, true, true, true, true, true, true, true, true, true, true, true, true, true, true, true, true, false, false, false, false, false, false, false, false, false, false, false, false, false, false, false, false, false, false, false, false, false, false, false, false, false, false, false, false, false, false, false] rfl rfl (take_ofW HT_.out HW_.out (by kernel_rfl)) (fun _ _ _ h => h) (Or.inl ⟨by rfl, ?_⟩) hHeld ?_ ?_
                                rotate_left
                                · rintro w' ⟨s0, s1, s2, s3, s4, s5, s6, s7, s8, s9, s10, s11, s12, s13, s14, s15, s16, s17, s18, s19⟩
                                  go_simp
                                  with_reducible rfl
                                rotate_left
                                · simp only [Act.put, List.setIfInBounds_toArray, List.set_cons_zero, List.set_cons_succ, i64_w, i32_w]
                                  rfl
                                refine take_ (i := 36) (N := some 80) (v := ?_) (a' := ?_) #[true, true, true, true, true, true, true, true, true, true, true, true, true, true, true, true, true, true, true, true, true, true, true, true, true, true, true, true, true, true, true, true, true, true, true, true, true, false, false, false, false, false, false, false, false, false, false, false, false, false, false, false, false, false, false, false, false, false, false, false, false, false, false, false, false, false, false] rfl rfl (take_ofW HT_.out HW_.out (by kernel_rfl)) (fun _ _ _ h => h) (Or.inl ⟨by rfl, ?_⟩) hHeld ?_ ?_
                                rotate_left
                                · rintro w' ⟨s0, s1, s2, s3, s4, s5, s6, s7, s8, s9, s10, s11, s12, s13, s14, s15, s16, s17, s18, s19⟩
                                  go_simp
                                  with_reducible rfl
                                rotate_left
                                · simp only [Act.put, List.setIfInBounds_toArray, List.set_cons_zero, List.set_cons_succ, i64_w, i32_w]
                                  rfl
                                refine pure_ (i := 37) (N := some 81) (v := ?_) (a' := ?_) #[true, true, true, true, true, true, true, true, true, true, true, true, true, true, true, true, true, true, true, true, true, true, true, true, true, true, true, true, true, true, true, true, true, true, true, true, true, true, false, false, false, false, false, false, false, false, false, false, false, false, false, false, false, false, false, false, false, false, false, false, false, false, false, false, false, false, false] rfl rfl (any_of HT_.out (by kernel_rfl)) (fun _ _ _ h => h) (Or.inl ⟨by rfl, ?_⟩) ?_ ?_
                                rotate_left
                                · intro w'
                                  go_simp
                                  with_reducible rfl
                                rotate_left
                                · simp only [Act.put, List.setIfInBounds_toArray, List.set_cons_zero, List.set_cons_succ, i64_w, i32_w]
                                  rfl
                                refine pure_ (i := 38) (N := some 82) (v := ?_) (a' := ?_) #[true, true, true, true, true, true, true, true, true, true, true, true, true, true, true, true, true, true, true, true, true, true, true, true, true, true, true, true, true, true, true, true, true, true, true, true, true, true, true, false, false, false, false, false, false, false, false, false, false, false, false, false, false, false, false, false, false, false, false, false, false, false, false, false, false, false, false] rfl rfl (any_of HT_.out (by kernel_rfl)) (fun _ _ _ h => h) (Or.inl ⟨by rfl, ?_⟩) ?_ ?_
                                rotate_left
                                · intro w'
                                  go_simp
                                  with_reducible rfl
                                rotate_left
                                · simp only [Act.put, List.setIfInBounds_toArray, List.set_cons_zero, List.set_cons_succ, i64_w, i32_w]
                                  rfl
                                refine pure_ (i := 39) (N := some 83) (v := ?_) (a' := ?_) #[true, true, true, true, true, true, true, true, true, true, true, true, true, true, true, true, true, true, true, true, true, true, true, true, true, true, true, true, true, true, true, true, true, true, true, true, true, true, true, true, false, false, false, false, false, false, false, false, false, false, false, false, false, false, false, false, false, false, false, false, false, false, false, false, false, false, false] rfl rfl (any_of HT_.out (by kernel_rfl)) (fun _ _ _ h => h) (Or.inl ⟨by rfl, ?_⟩) ?_ ?_
                                rotate_left
                                · intro w'
                                  go_simp
                                  with_reducible rfl
                                rotate_left
                                · simp only [Act.put, List.setIfInBounds_toArray, List.set_cons_zero, List.set_cons_succ, i64_w, i32_w]
                                  rfl
                                refine pure_ (i := 40) (N := some 84) (v := ?_) (a' := ?_) #[true, true, true, true, true, true, true, true, true, true, true, true, true, true, true, true, true, true, true, true, true, true, true, true, true, true, true, true, true, true, true, true, true, true, true, true, true, true, true, true, true, false, false, false, false, false, false, false, false, false, false, false, false, false, false, false, false, false, false, false, false, false, false, false, false, false, false] rfl rfl (any_of HT_.out (by kernel_rfl)) (fun _ _ _ h => h) (Or.inl ⟨by rfl, ?_⟩) ?_ ?_
                                rotate_left
                                · intro w'
                                  go_simp
                                  with_reducible rfl
                                rotate_left
                                · simp only [Act.put, List.setIfInBounds_toArray, List.set_cons_zero, List.set_cons_succ, i64_w, i32_w]
                                  rfl
                                refine pure_ (i := 41) (N := some 85) (v := ?_) (a' := ?_) #[true, true, true, true, true, true, true, true, true, true, true, true, true, true, true, true, true, true, true, true, true, true, true, true, true, true, true, true, true, true, true, true, true, true, true, true, true, true, true, true, true, true, false, false, false, false, false, false, false, false, false, false, false, false, false, false, false, false, false, false, false, false, false, false, false, false, false] rfl rfl (any_of HT_.out (by kernel_rfl)) (fun _ _ _ h => h) (Or.inl ⟨by rfl, ?_⟩) ?_ ?_
                                rotate_left
                                · intro w'
                                  go_simp
                                  with_reducible rfl
                                rotate_left
                                · simp only [Act.put, List.setIfInBounds_toArray, List.set_cons_zero, List.set_cons_succ, i64_w, i32_w]
                                  rfl
                                refine pure_ (i := 42) (N := some 86) (v := ?_) (a' := ?_) #[true, true, true, true, true, true, true, true, true, true, true, true, true, true, true, true, true, true, true, true, true, true, true, true, true, true, true, true, true, true, true, true, true, true, true, true, true, true, true, true, true, true, true, false, false, false, false, false, false, false, false, false, false, false, false, false, false, false, false, false, false, false, false, false, false, false, false] rfl rfl (any_of HT_.out (by kernel_rfl)) (fun _ _ _ h => h) (Or.inl ⟨by rfl, ?_⟩) ?_ ?_
                                rotate_left
                                · intro w'
                                  go_simp
                                  with_reducible rfl
                                rotate_left
                                · simp only [Act.put, List.setIfInBounds_toArray, List.set_cons_zero, List.set_cons_succ, i64_w, i32_w]
                                  rfl
                                refine pure_ (i := 43) (N := some 87) (v := ?_) (a' := ?_) #[true, true, true, true, true, true, true, true, true, true, true, true, true, true, true, true, true, true, true, true, true, true, true, true, true, true, true, true, true, true, true, true, true, true, true, true, true, true, true, true, true, true, true, true, false, false, false, false, false, false, false, false, false, false, false, false, false, false, false, false, false, false, false, false, false, false, false] rfl rfl (any_of HT_.out (by kernel_rfl)) (fun _ _ _ h => h) (Or.inl ⟨by rfl, ?_⟩) ?_ ?_
                                rotate_left
                                · intro w'
                                  go_simp
                                  with_reducible rfl
                                rotate_left
                                · simp only [Act.put, List.setIfInBounds_toArray, List.set_cons_zero, List.set_cons_succ, i64_w, i32_w]
                                  rfl
                                refine pure_ (i := 44) (N := some 88) (v := ?_) (a' := ?_) #[true, true, true, true, true, true, true, true, true, true, true, true, true, true, true, true, true, true, true, true, true, true, true, true, true, true, true, true, true, true, true, true, true, true, true, true, true, true, true, true, true, true, true, true, true, false, false, false, false, false, false, false, false, false, false, false, false, false, false, false, false, false, false, false, false, false, false] rfl rfl (any_of HT_.out (by kernel_rfl)) (fun _ _ _ h => h) (Or.inl ⟨by rfl, ?_⟩) ?_ ?_
                                rotate_left
                                · intro w'
                                  go_simp
                                  with_reducible rfl
                                rotate_left
                                · simp only [Act.put, List.setIfInBounds_toArray, List.set_cons_zero, List.set_cons_succ, i64_w, i32_w]
                                  rfl
                                refine pure_ (i := 45) (N := some 89) (v := ?_) (a' := ?_) #[true, true, true, true, true, true, true, true, true, true, true, true, true, true, true, true, true, true, true, true, true, true, true, true, true, true, true, true, true, true, true, true, true, true, true, true, true, true, true, true, true, true, true, true, true, true, false, false, false, false, false, false, false, false, false, false, false, false, false, false, false, false, false, false, false, false, false] rfl rfl (any_of HT_.out (by kernel_rfl)) (fun _ _ _ h => h) (Or.inl ⟨by rfl, ?_⟩) ?_ ?_
                                rotate_left
                                · intro w'
                                  go_simp
                                  with_reducible rfl
                                rotate_left
                                · simp only [Act.put, List.setIfInBounds_toArray, List.set_cons_zero, List.set_cons_succ, i64_w, i32_w]
                                  rfl
                                refine pure_ (i := 46) (N := some 90) (v := ?_) (a' := ?_) #[true, true, true, true, true, true, true, true, true, true, true, true, true, true, true, true, true, true, true, true, true, true, true, true, true, true, true, true, true, true, true, true, true, true, true, true, true, true, true, true, true, true, true, true, true, true, true, false, false, false, false, false, false, false, false, false, false, false, false, false, false, false, false, false, false, false, false] rfl rfl (any_of HT_.out (by kernel_rfl)) (fun _ _ _ h => h) (Or.inl ⟨by rfl, ?_⟩) ?_ ?_
                                rotate_left
                                · intro w'
                                  go_simp
                                  with_reducible rfl
                                rotate_left
                                · simp only [Act.put, List.setIfInBounds_toArray, List.set_cons_zero, List.set_cons_succ, i64_w, i32_w]
                                  rfl
                                refine pure_ (i := 47) (N := some 91) (v := ?_) (a' := ?_) #[true, true, true, true, true, true, true, true, true, true, true, true, true, true, true, true, true, true, true, true, true, true, true, true, true, true, true, true, true, true, true, true, true, true, true, true, true, true, true, true, true, true, true, true, true, true, true, true, false, false, false, false, false, false, false, false, false, false, false, false, false, false, false, false, false, false, false] rfl rfl (any_of HT_.out (by kernel_rfl)) (fun _ _ _ h => h) (Or.inl ⟨by rfl, ?_⟩) ?_ ?_
                                rotate_left
                                · intro w'
                                  go_simp
                                  with_reducible rfl
                                rotate_left
                                · simp only [Act.put, List.setIfInBounds_toArray, List.set_cons_zero, List.set_cons_succ, i64_w, i32_w]
                                  rfl
                                refine pure_ (i := 48) (N := some 92) (v := ?_) (a' := ?_) #[true, true, true, true, true, true, true, true, true, true, true, true, true, true, true, true, true, true, true, true, true, true, true, true, true, true, true, true, true, true, true, true, true, true, true, true, true, true, true, true, true, true, true, true, true, true, true, true, true, false, false, false, false, false, false, false, false, false, false, false, false, false, false, false, false, false, false] rfl rfl (any_of HT_.out (by kernel_rfl)) (fun _ _ _ h => h) (Or.inl ⟨by rfl, ?_⟩) ?_ ?_
                                rotate_left
                                · intro w'
                                  go_simp
                                  with_reducible rfl
                                rotate_left
                                · simp only [Act.put, List.setIfInBounds_toArray, List.set_cons_zero, List.set_cons_succ, i64_w, i32_w]
                                  rfl
                                refine pure_ (i := 49) (N := some 93) (v := ?_) (a' := ?_) #[true, true, true, true, true, true, true, true, true, true, true, true, true, true, true, true, true, true, true, true, true, true, true, true, true, true, true, true, true, true, true, true, true, true, true, true, true, true, true, true, true, true, true, true, true, true, true, true, true, true, false, false, false, false, false, false, false, false, false, false, false, false, false, false, false, false, false] rfl rfl (any_of HT_.out (by kernel_rfl)) (fun _ _ _ h => h) (Or.inl ⟨by rfl, ?_⟩) ?_ ?_
                                rotate_left
                                · intro w'
                                  go_simp
                                  with_reducible rfl
                                rotate_left
                                · simp only [Act.put, List.setIfInBounds_toArray, List.set_cons_zero, List.set_cons_succ, i64_w, i32_w]
                                  rfl
                                refine pure_ (i := 50) (N := some 94) (v := ?_) (a' := ?_) #[true, true, true, true, true, true, true, true, true, true, true, true, true, true, true, true, true, true, true, true, true, true, true, true, true, true, true, true, true, true, true, true, true, true, true, true, true, true, true, true, true, true, true, true, true, true, true, true, true, true, true, false, false, false, false, false, false, false, false, false, false, false, false, false, false, false, false] rfl rfl (any_of HT_.out (by kernel_rfl)) (fun _ _ _ h => h) (Or.inl ⟨by rfl, ?_⟩) ?_ ?_
                                rotate_left
                                · intro w'
                                  go_simp
                                  with_reducible rfl
                                rotate_left
                                · simp only [Act.put, List.setIfInBounds_toArray, List.set_cons_zero, List.set_cons_succ, i64_w, i32_w]
                                  rfl
                                refine take_ (i := 51) (N := some 95) (v := ?_) (a' := ?_) #[true, true, true, true, true, true, true, true, true, true, true, true, true, true, true, true, true, true, true, true, true, true, true, true, true, true, true, true, true, true, true, true, true, true, true, true, true, true, true, true, true, true, true, true, true, true, true, true, true, true, true, true, false, false, false, false, false, false, false, false, false, false, false, false, false, false, false] rfl rfl (take_ofW HT_.out HW_.out (by kernel_rfl)) (fun _ _ _ h => h) (Or.inl ⟨by rfl, ?_⟩) hHeld ?_ ?_
                                rotate_left
                                · rintro w' ⟨s0, s1, s2, s3, s4, s5, s6, s7, s8, s9, s10, s11, s12, s13, s14, s15, s16, s17, s18, s19⟩
                                  go_simp
                                  with_reducible rfl
                                rotate_left
                                · simp only [Act.put, List.setIfInBounds_toArray, List.set_cons_zero, List.set_cons_succ, i64_w, i32_w]
                                  rfl
                                refine take_ (i := 52) (N := some 96) (v := ?_) (a' := ?_) #[true, true, true, true, true, true, true, true, true, true, true, true, true, true, true, true, true, true, true, true, true, true, true, true, true, true, true, true, true, true, true, true, true, true, true, true, true, true, true, true, true, true, true, true, true, true, true, true, true, true, true, true, true, false, false, false, false, false, false, false, false, false, false, false, false, false, false] rfl rfl (take_ofW HT_.out HW_.out (by kernel_rfl)) (fun _ _ _ h => h) (Or.inl ⟨by rfl, ?_⟩) hHeld ?_ ?_
                                rotate_left
                                · rintro w' ⟨s0, s1, s2, s3, s4, s5, s6, s7, s8, s9, s10, s11, s12, s13, s14, s15, s16, s17, s18, s19⟩
                                  go_simp
                                  with_reducible rfl
                                rotate_left
                                · simp only [Act.put, List.setIfInBounds_toArray, List.set_cons_zero, List.set_cons_succ, i64_w, i32_w]
                                  rfl
                                refine pure_ (i := 53) (N := some 97) (v := ?_) (a' := ?_) #[true, true, true, true, true, true, true, true, true, true, true, true, true, true, true, true, true, true, true, true, true, true, true, true, true, true, true, true, true, true, true, true, true, true, true, true, true, true, true, true, true, true, true, true, true, true, true, true, true, true, true, true, true, true, false, false, false, false, false, false, false, false, false, false, false, false, false] rfl rfl (any_of HT_.out (by kernel_rfl)) (fun _ _ _ h => h) (Or.inl ⟨by rfl, ?_⟩) ?_ ?_
                                rotate_left
                                · intro w'
                                  go_simp
                                  with_reducible rfl
                                rotate_left
                                · simp only [Act.put, List.setIfInBounds_toArray, List.set_cons_zero, List.set_cons_succ, i64_w, i32_w]
                                  rfl
                                refine pure_ (i := 54) (N := some 98) (v := ?_) (a' := ?_) #[true, true, true, true, true, true, true, true, true, true, true, true, true, true, true, true, true, true, true, true, true, true, true, true, true, true, true, true, true, true, true, true, true, true, true, true, true, true, true, true, true, true, true, true, true, true, true, true, true, true, true, true, true, true, true, false, false, false, false, false, false, false, false, false, false, false, false] rfl rfl (any_of HT_.out (by kernel_rfl)) (fun _ _ _ h => h) (Or.inl ⟨by rfl, ?_⟩) ?_ ?_
                                rotate_left
                                · intro w'
                                  go_simp
                                  with_reducible rfl
                                rotate_left
                                · simp only [Act.put, List.setIfInBounds_toArray, List.set_cons_zero, List.set_cons_succ, i64_w, i32_w]
                                  rfl
                                refine pure_ (i := 55) (N := some 99) (v := ?_) (a' := ?_) #[true, true, true, true, true, true, true, true, true, true, true, true, true, true, true, true, true, true, true, true, true, true, true, true, true, true, true, true, true, true, true, true, true, true, true, true, true, true, true, true, true, true, true, true, true, true, true, true, true, true, true, true, true, true, true, true, false, false, false, false, false, false, false, false, false, false, false] rfl rfl (any_of HT_.out (by kernel_rfl)) (fun _ _ _ h => h) (Or.inl ⟨by rfl, ?_⟩) ?_ ?_
                                rotate_left
                                · intro w'
                                  go_simp
                                  with_reducible rfl
                                rotate_left
                                · simp only [Act.put, List.setIfInBounds_toArray, List.set_cons_zero, List.set_cons_succ, i64_w, i32_w]
                                  rfl
                                refine pure_ (i := 56) (N := some 100) (v := ?_) (a' := ?_) #[true, true, true, true, true, true, true, true, true, true, true, true, true, true, true, true, true, true, true, true, true, true, true, true, true, true, true, true, true, true, true, true, true, true, true, true, true, true, true, true, true, true, true, true, true, true, true, true, true, true, true, true, true, true, true, true, true, false, false, false, false, false, false, false, false, false, false] rfl rfl (any_of HT_.out (by kernel_rfl)) (fun _ _ _ h => h) (Or.inl ⟨by rfl, ?_⟩) ?_ ?_
                                rotate_left
                                · intro w'
                                  go_simp
                                  with_reducible rfl
                                rotate_left
                                · simp only [Act.put, List.setIfInBounds_toArray, List.set_cons_zero, List.set_cons_succ, i64_w, i32_w]
                                  rfl
                                refine one_ (i := 57) (N := some 101) #[true, true, true, true, true, true, true, true, true, true, true, true, true, true, true, true, true, true, true, true, true, true, true, true, true, true, true, true, true, true, true, true, true, true, true, true, true, true, true, true, true, true, true, true, true, true, true, true, true, true, true, true, true, true, true, true, true, true, false, false, false, false, false, false, false, false, false] rfl rfl (one_of HT_.out (by kernel_rfl)) (by decide) (fun K hK => ?_)
                                refine goes_ Tryd.func40 (by kernel_rfl) rfl #[.slice Ao31 y273.length co31, .int .i64 1] (by rfl) rfl rfl (by (try simp only [List.map_toArray, List.map_cons, List.map_nil]); first | done | rfl | (simp only [List.length_drop, List.length_take]; rfl)) ?_
                                with_reducible refine (page_All.calls _ _ y273 1 t300 _ ?side3 ?side1 ?side2 A20.out).mono ?_
                                (case side1 => repeat (first | exact (Kd.R_reads' HO275.out).2.2 | (with_reducible refine Kd.C_alloc ?_ _) | (with_reducible refine Kd.C_drewN ?_ _) | (with_reducible refine Kd.C_drew ?_)))
                                (case side2 => exact (Kd.R_reads' HO275.out).2.1)
                                (case side3 => exact ⟨Good.below hG.out (by repeat (first | (with_reducible first | exact HB.out | apply below_alloc | apply pw_below_drewN | apply below_drew1 | refine below_set ?_ GE271.out | refine below_set ?_ GE272.out | refine below_set ?_ GE296.out) | exact HB.out))⟩)
                                rintro e w45 ⟨v301, rfl, ho0, hb⟩
                                have HS12_ := (hb.cell (World.block_lt_of_cell? _ _ (hHeld.2.2.2.2.2.2.2.2.2.2.2.2.1))).trans (hHeld.2.2.2.2.2.2.2.2.2.2.2.2.1)
                                have HS13_ := (hb.cell (World.block_lt_of_cell? _ _ (hHeld.2.2.2.2.2.2.2.2.2.2.2.2.2.1))).trans (hHeld.2.2.2.2.2.2.2.2.2.2.2.2.2.1)
                                have HS14_ := (hb.cell (World.block_lt_of_cell? _ _ (hHeld.2.2.2.2.2.2.2.2.2.2.2.2.2.2.1))).trans (hHeld.2.2.2.2.2.2.2.2.2.2.2.2.2.2.1)
                                have HS15_ := (hb.cell (World.block_lt_of_cell? _ _ (hHeld.2.2.2.2.2.2.2.2.2.2.2.2.2.2.2.1))).trans (hHeld.2.2.2.2.2.2.2.2.2.2.2.2.2.2.2.1)
                                have HS16_ := (hb.cell (World.block_lt_of_cell? _ _ (hHeld.2.2.2.2.2.2.2.2.2.2.2.2.2.2.2.2.1))).trans (hHeld.2.2.2.2.2.2.2.2.2.2.2.2.2.2.2.2.1)
                                have HS17_ := (hb.cell (World.block_lt_of_cell? _ _ (hHeld.2.2.2.2.2.2.2.2.2.2.2.2.2.2.2.2.2.1))).trans (hHeld.2.2.2.2.2.2.2.2.2.2.2.2.2.2.2.2.2.1)
                                have HS18_ := (hb.cell (World.block_lt_of_cell? _ _ (hHeld.2.2.2.2.2.2.2.2.2.2.2.2.2.2.2.2.2.2.1))).trans (hHeld.2.2.2.2.2.2.2.2.2.2.2.2.2.2.2.2.2.2.1)
                                have HS19_ := (hb.cell (World.block_lt_of_cell? _ _ (hHeld.2.2.2.2.2.2.2.2.2.2.2.2.2.2.2.2.2.2.2))).trans (hHeld.2.2.2.2.2.2.2.2.2.2.2.2.2.2.2.2.2.2.2)
                                refine ⟨_, rfl, ?_⟩
                                have n0_ := Aside0.mk (Kd.R_below (by (with_reducible repeat (first | apply Kd.R_alloc | apply Kd.R_drewN | apply Kd.R_drew)); exact HO275.out) hb)
                                have n1_ := Aside0.mk (Kd.R_below (by (with_reducible repeat (first | apply Kd.R_alloc | apply Kd.R_drewN | apply Kd.R_drew)); exact HO280.out) hb)
                                have n2_ := Aside0.mk (Kd.R_below (by (with_reducible repeat (first | apply Kd.R_alloc | apply Kd.R_drewN | apply Kd.R_drew)); exact HO285.out) hb)
                                have n3_ := Aside0.mk (Kd.R_below (by (with_reducible repeat (first | apply Kd.R_alloc | apply Kd.R_drewN | apply Kd.R_drew)); exact HO290.out) hb)
                                have n4_ := Aside0.mk (Kd.S_lower (Kd.S_newB (Kd.S_newB (Kd.S_newB (Kd.S_new' (Kd.S_new' (Kd.S_new' (Kd.S_new' ho0 (Kd.R_lt (by (with_reducible repeat (first | apply Kd.R_alloc | apply Kd.R_drewN | apply Kd.R_drew)); exact HO275.out))) (Kd.R_lt (by (with_reducible repeat (first | apply Kd.R_alloc | apply Kd.R_drewN | apply Kd.R_drew)); exact HO280.out))) (Kd.R_lt (by (with_reducible repeat (first | apply Kd.R_alloc | apply Kd.R_drewN | apply Kd.R_drew)); exact HO285.out))) (Kd.R_lt (by (with_reducible repeat (first | apply Kd.R_alloc | apply Kd.R_drewN | apply Kd.R_drew)); exact HO290.out))) (g := gb271) (o := .cells #[.int .i64 3, .int .i64 9, .int .i64 1, .int .i64 2] 44 (0, 0)) (by (with_reducible repeat (first | refine blk_drewN ?_ _ | refine blk_drew ?_ | refine blk_alloc ?_ _)); exact BK271.out)) (g := gb272) (o := .cells #[.int .i64 4, .int .i64 9, .int .i64 1, .int .i64 2] 44 (0, 0)) (by (with_reducible repeat (first | refine blk_drewN ?_ _ | refine blk_drew ?_ | refine blk_alloc ?_ _)); exact BK272.out)) (g := gb296) (o := .cells #[.int .i64 t291, .int .i64 t292, .int .i64 t293, .int .i64 t294] 44 (0, 0)) (by (with_reducible repeat (first | refine blk_drewN ?_ _ | refine blk_drew ?_ | refine blk_alloc ?_ _)); exact BK296.out)) (below_size (by repeat (first | (with_reducible first | exact HB.out | apply below_alloc | apply pw_below_drewN | apply below_drew1 | refine below_set ?_ GE271.out | refine below_set ?_ GE272.out | refine below_set ?_ GE296.out) | exact HB.out))))
                                have n5_ := Aside0.mk (blk_below (g := gb271) (o := .cells #[.int .i64 3, .int .i64 9, .int .i64 1, .int .i64 2] 44 (0, 0)) (by (with_reducible repeat (first | refine blk_drewN ?_ _ | refine blk_drew ?_ | refine blk_alloc ?_ _)); exact BK271.out) hb)
                                have n6_ := Aside0.mk (blk_below (g := gb272) (o := .cells #[.int .i64 4, .int .i64 9, .int .i64 1, .int .i64 2] 44 (0, 0)) (by (with_reducible repeat (first | refine blk_drewN ?_ _ | refine blk_drew ?_ | refine blk_alloc ?_ _)); exact BK272.out) hb)
                                have n7_ := Aside0.mk (blk_below (g := gb296) (o := .cells #[.int .i64 t291, .int .i64 t292, .int .i64 t293, .int .i64 t294] 44 (0, 0)) (by (with_reducible repeat (first | refine blk_drewN ?_ _ | refine blk_drew ?_ | refine blk_alloc ?_ _)); exact BK296.out) hb)
                                have n8_ := Aside0.mk (below_step (by repeat (first | (with_reducible first | exact HB.out | apply below_alloc | apply pw_below_drewN | apply below_drew1 | refine below_set ?_ GE271.out | refine below_set ?_ GE272.out | refine below_set ?_ GE296.out) | exact HB.out)) hb)
                                clear HO275
                                clear HO280
                                clear HO285
                                clear HO290
                                clear BK271
                                clear BK272
                                clear BK296
                                clear HB
                                have HO275 := n0_
                                have HO280 := n1_
                                have HO285 := n2_
                                have HO290 := n3_
                                have HO302 := n4_
                                have BK271 := n5_
                                have BK272 := n6_
                                have BK296 := n7_
                                have HB := n8_
                                clear n0_ n1_ n2_ n3_ n4_ n5_ n6_ n7_ n8_
                                (try clear hb)
                                (try clear hb2)
                                (try clear hk)
                                (try clear hi)
                                (try clear ho0)
                                obtain ⟨Ao46, co46, eo46⟩ := Kd.S_slice HO302.out
                                (first | subst eo46 | (injection eo46 with f1_ f2_ f3_; have f4_ := f1_.symm; have f5_ := f3_.symm; clear f1_ f2_ f3_; subst f4_; subst f5_))
                                refine hK.out _ _ ⟨(blk_cell BK271.out 0).trans rfl, (blk_cell BK271.out 1).trans rfl, (blk_cell BK271.out 2).trans rfl, (blk_cell BK271.out 3).trans rfl, (blk_cell BK272.out 0).trans rfl, (blk_cell BK272.out 1).trans rfl, (blk_cell BK272.out 2).trans rfl, (blk_cell BK272.out 3).trans rfl, (blk_cell BK296.out 0).trans rfl, (blk_cell BK296.out 1).trans rfl, (blk_cell BK296.out 2).trans rfl, (blk_cell BK296.out 3).trans rfl, HS12_, HS13_, HS14_, HS15_, HS16_, HS17_, HS18_, HS19_⟩ (fun hHeld => ?_)
                                clear hK K
                                refine norm_ (a' := ?_) ?_ ?_
                                rotate_left
                                · show Act.put _ (some 101) _ = _
                                  simp only [Act.put, List.setIfInBounds_toArray, List.set_cons_zero, List.set_cons_succ, i64_w, i32_w]
                                  rfl
                                refine pure_ (i := 58) (N := some 102) (v := ?_) (a' := ?_) #[true, true, true, true, true, true, true, true, true, true, true, true, true, true, true, true, true, true, true, true, true, true, true, true, true, true, true, true, true, true, true, true, true, true, true, true, true, true, true, true, true, true, true, true, true, true, true, true, true, true, true, true, true, true, true, true, true, true, true, false, false, false, false, false, false, false, false] rfl rfl (any_of HT_.out (by kernel_rfl)) (fun _ _ _ h => h) (Or.inl ⟨by rfl, ?_⟩) ?_ ?_
                                rotate_left
                                · intro w'
                                  go_simp
                                  with_reducible rfl
                                rotate_left
                                · simp only [Act.put, List.setIfInBounds_toArray, List.set_cons_zero, List.set_cons_succ, i64_w, i32_w]
                                  rfl
                                refine pure_ (i := 59) (N := some 103) (v := ?_) (a' := ?_) #[true, true, true, true, true, true, true, true, true, true, true, true, true, true, true, true, true, true, true, true, true, true, true, true, true, true, true, true, true, true, true, true, true, true, true, true, true, true, true, true, true, true, true, true, true, true, true, true, true, true, true, true, true, true, true, true, true, true, true, true, false, false, false, false, false, false, false] rfl rfl (any_of HT_.out (by kernel_rfl)) (fun _ _ _ h => h) (Or.inl ⟨by rfl, ?_⟩) ?_ ?_
                                rotate_left
                                · intro w'
                                  go_simp
                                  with_reducible rfl
                                rotate_left
                                · simp only [Act.put, List.setIfInBounds_toArray, List.set_cons_zero, List.set_cons_succ, i64_w, i32_w]
                                  rfl
                                refine pure_ (i := 60) (N := some 104) (v := ?_) (a' := ?_) #[true, true, true, true, true, true, true, true, true, true, true, true, true, true, true, true, true, true, true, true, true, true, true, true, true, true, true, true, true, true, true, true, true, true, true, true, true, true, true, true, true, true, true, true, true, true, true, true, true, true, true, true, true, true, true, true, true, true, true, true, true, false, false, false, false, false, false] rfl rfl (any_of HT_.out (by kernel_rfl)) (fun _ _ _ h => h) (Or.inl ⟨by rfl, ?_⟩) ?_ ?_
                                rotate_left
                                · intro w'
                                  go_simp
                                  with_reducible rfl
                                rotate_left
                                · simp only [Act.put, List.setIfInBounds_toArray, List.set_cons_zero, List.set_cons_succ, i64_w, i32_w]
                                  rfl
                                refine pure_ (i := 61) (N := some 105) (v := ?_) (a' := ?_) #[true, true, true, true, true, true, true, true, true, true, true, true, true, true, true, true, true, true, true, true, true, true, true, true, true, true, true, true, true, true, true, true, true, true, true, true, true, true, true, true, true, true, true, true, true, true, true, true, true, true, true, true, true, true, true, true, true, true, true, true, true, true, false, false, false, false, false] rfl rfl (any_of HT_.out (by kernel_rfl)) (fun _ _ _ h => h) (Or.inl ⟨by rfl, ?_⟩) ?_ ?_
                                rotate_left
                                · intro w'
                                  go_simp
                                  with_reducible rfl
                                rotate_left
                                · simp only [Act.put, List.setIfInBounds_toArray, List.set_cons_zero, List.set_cons_succ, i64_w, i32_w]
                                  rfl
                                refine one_ (i := 62) (N := some 106) #[true, true, true, true, true, true, true, true, true, true, true, true, true, true, true, true, true, true, true, true, true, true, true, true, true, true, true, true, true, true, true, true, true, true, true, true, true, true, true, true, true, true, true, true, true, true, true, true, true, true, true, true, true, true, true, true, true, true, true, true, true, true, true, false, false, false, false] rfl rfl (one_of HT_.out (by kernel_rfl)) (by decide) (fun K hK => ?_)
                                refine goes_ Tryd.func40 (by kernel_rfl) rfl #[.slice none 0 0, .int .i64 1] (by rfl) rfl rfl (by (try simp only [List.map_toArray, List.map_cons, List.map_nil]); first | done | rfl | (simp only [List.length_drop, List.length_take]; rfl)) ?_
                                refine (page_All.calls _ _ ([] : List (S44)) 1 t303 _ ?side3 ?side1 ?side2 A22.out).mono ?_
                                (case side1 => exact Kd.C_nil _ _)
                                (case side2 => exact Nat.le_refl _)
                                (case side3 => exact ⟨Good.below hG.out (by repeat (first | (with_reducible first | exact HB.out | apply below_alloc | apply pw_below_drewN | apply below_drew1 | refine below_set ?_ GE271.out | refine below_set ?_ GE272.out | refine below_set ?_ GE296.out) | exact HB.out))⟩)
                                rintro e w47 ⟨v304, rfl, ho0, hb⟩
                                have HS12_ := (hb.cell (World.block_lt_of_cell? _ _ (hHeld.2.2.2.2.2.2.2.2.2.2.2.2.1))).trans (hHeld.2.2.2.2.2.2.2.2.2.2.2.2.1)
                                have HS13_ := (hb.cell (World.block_lt_of_cell? _ _ (hHeld.2.2.2.2.2.2.2.2.2.2.2.2.2.1))).trans (hHeld.2.2.2.2.2.2.2.2.2.2.2.2.2.1)
                                have HS14_ := (hb.cell (World.block_lt_of_cell? _ _ (hHeld.2.2.2.2.2.2.2.2.2.2.2.2.2.2.1))).trans (hHeld.2.2.2.2.2.2.2.2.2.2.2.2.2.2.1)
                                have HS15_ := (hb.cell (World.block_lt_of_cell? _ _ (hHeld.2.2.2.2.2.2.2.2.2.2.2.2.2.2.2.1))).trans (hHeld.2.2.2.2.2.2.2.2.2.2.2.2.2.2.2.1)
                                have HS16_ := (hb.cell (World.block_lt_of_cell? _ _ (hHeld.2.2.2.2.2.2.2.2.2.2.2.2.2.2.2.2.1))).trans (hHeld.2.2.2.2.2.2.2.2.2.2.2.2.2.2.2.2.1)
                                have HS17_ := (hb.cell (World.block_lt_of_cell? _ _ (hHeld.2.2.2.2.2.2.2.2.2.2.2.2.2.2.2.2.2.1))).trans (hHeld.2.2.2.2.2.2.2.2.2.2.2.2.2.2.2.2.2.1)
                                have HS18_ := (hb.cell (World.block_lt_of_cell? _ _ (hHeld.2.2.2.2.2.2.2.2.2.2.2.2.2.2.2.2.2.2.1))).trans (hHeld.2.2.2.2.2.2.2.2.2.2.2.2.2.2.2.2.2.2.1)
                                have HS19_ := (hb.cell (World.block_lt_of_cell? _ _ (hHeld.2.2.2.2.2.2.2.2.2.2.2.2.2.2.2.2.2.2.2))).trans (hHeld.2.2.2.2.2.2.2.2.2.2.2.2.2.2.2.2.2.2.2)
                                refine ⟨_, rfl, ?_⟩
                                have n0_ := Aside0.mk (Kd.R_below (by (with_reducible repeat (first | apply Kd.R_alloc | apply Kd.R_drewN | apply Kd.R_drew)); exact HO275.out) hb)
                                have n1_ := Aside0.mk (Kd.R_below (by (with_reducible repeat (first | apply Kd.R_alloc | apply Kd.R_drewN | apply Kd.R_drew)); exact HO280.out) hb)
                                have n2_ := Aside0.mk (Kd.R_below (by (with_reducible repeat (first | apply Kd.R_alloc | apply Kd.R_drewN | apply Kd.R_drew)); exact HO285.out) hb)
                                have n3_ := Aside0.mk (Kd.R_below (by (with_reducible repeat (first | apply Kd.R_alloc | apply Kd.R_drewN | apply Kd.R_drew)); exact HO290.out) hb)
                                have n4_ := Aside0.mk (Kd.S_elder' (by (with_reducible repeat (first | apply Kd.S_alloc | apply Kd.S_drewN | apply Kd.S_drew)); exact HO302.out) (Kd.S_base ho0) hb)
                                have n5_ := Aside0.mk (Kd.S_lower (Kd.S_newB (Kd.S_newB (Kd.S_newB (Kd.S_new' (Kd.S_new' (Kd.S_new' (Kd.S_new' (Kd.S_new' ho0 (Kd.R_lt (by (with_reducible repeat (first | apply Kd.R_alloc | apply Kd.R_drewN | apply Kd.R_drew)); exact HO275.out))) (Kd.R_lt (by (with_reducible repeat (first | apply Kd.R_alloc | apply Kd.R_drewN | apply Kd.R_drew)); exact HO280.out))) (Kd.R_lt (by (with_reducible repeat (first | apply Kd.R_alloc | apply Kd.R_drewN | apply Kd.R_drew)); exact HO285.out))) (Kd.R_lt (by (with_reducible repeat (first | apply Kd.R_alloc | apply Kd.R_drewN | apply Kd.R_drew)); exact HO290.out))) (Kd.S_lt (by (with_reducible repeat (first | apply Kd.S_alloc | apply Kd.S_drewN | apply Kd.S_drew)); exact HO302.out))) (g := gb271) (o := .cells #[.int .i64 3, .int .i64 9, .int .i64 1, .int .i64 2] 44 (0, 0)) (by (with_reducible repeat (first | refine blk_drewN ?_ _ | refine blk_drew ?_ | refine blk_alloc ?_ _)); exact BK271.out)) (g := gb272) (o := .cells #[.int .i64 4, .int .i64 9, .int .i64 1, .int .i64 2] 44 (0, 0)) (by (with_reducible repeat (first | refine blk_drewN ?_ _ | refine blk_drew ?_ | refine blk_alloc ?_ _)); exact BK272.out)) (g := gb296) (o := .cells #[.int .i64 t291, .int .i64 t292, .int .i64 t293, .int .i64 t294] 44 (0, 0)) (by (with_reducible repeat (first | refine blk_drewN ?_ _ | refine blk_drew ?_ | refine blk_alloc ?_ _)); exact BK296.out)) (below_size (by repeat (first | (with_reducible first | exact HB.out | apply below_alloc | apply pw_below_drewN | apply below_drew1 | refine below_set ?_ GE271.out | refine below_set ?_ GE272.out | refine below_set ?_ GE296.out) | exact HB.out))))
                                have n6_ := Aside0.mk (blk_below (g := gb271) (o := .cells #[.int .i64 3, .int .i64 9, .int .i64 1, .int .i64 2] 44 (0, 0)) (by (with_reducible repeat (first | refine blk_drewN ?_ _ | refine blk_drew ?_ | refine blk_alloc ?_ _)); exact BK271.out) hb)
                                have n7_ := Aside0.mk (blk_below (g := gb272) (o := .cells #[.int .i64 4, .int .i64 9, .int .i64 1, .int .i64 2] 44 (0, 0)) (by (with_reducible repeat (first | refine blk_drewN ?_ _ | refine blk_drew ?_ | refine blk_alloc ?_ _)); exact BK272.out) hb)
                                have n8_ := Aside0.mk (blk_below (g := gb296) (o := .cells #[.int .i64 t291, .int .i64 t292, .int .i64 t293, .int .i64 t294] 44 (0, 0)) (by (with_reducible repeat (first | refine blk_drewN ?_ _ | refine blk_drew ?_ | refine blk_alloc ?_ _)); exact BK296.out) hb)
                                have n9_ := Aside0.mk (below_step (by repeat (first | (with_reducible first | exact HB.out | apply below_alloc | apply pw_below_drewN | apply below_drew1 | refine below_set ?_ GE271.out | refine below_set ?_ GE272.out | refine below_set ?_ GE296.out) | exact HB.out)) hb)
                                clear HO275
                                clear HO280
                                clear HO285
                                clear HO290
                                clear HO302
                                clear BK271
                                clear BK272
                                clear BK296
                                clear HB
                                have HO275 := n0_
                                have HO280 := n1_
                                have HO285 := n2_
                                have HO290 := n3_
                                have HO302 := n4_
                                have HO305 := n5_
                                have BK271 := n6_
                                have BK272 := n7_
                                have BK296 := n8_
                                have HB := n9_
                                clear n0_ n1_ n2_ n3_ n4_ n5_ n6_ n7_ n8_ n9_
                                (try clear hb)
                                (try clear hb2)
                                (try clear hk)
                                (try clear hi)
                                (try clear ho0)
                                obtain ⟨Ao48, co48, eo48⟩ := Kd.S_slice HO305.out
                                (first | subst eo48 | (injection eo48 with f1_ f2_ f3_; have f4_ := f1_.symm; have f5_ := f3_.symm; clear f1_ f2_ f3_; subst f4_; subst f5_))
                                refine hK.out _ _ ⟨(blk_cell BK271.out 0).trans rfl, (blk_cell BK271.out 1).trans rfl, (blk_cell BK271.out 2).trans rfl, (blk_cell BK271.out 3).trans rfl, (blk_cell BK272.out 0).trans rfl, (blk_cell BK272.out 1).trans rfl, (blk_cell BK272.out 2).trans rfl, (blk_cell BK272.out 3).trans rfl, (blk_cell BK296.out 0).trans rfl, (blk_cell BK296.out 1).trans rfl, (blk_cell BK296.out 2).trans rfl, (blk_cell BK296.out 3).trans rfl, HS12_, HS13_, HS14_, HS15_, HS16_, HS17_, HS18_, HS19_⟩ (fun hHeld => ?_)
                                clear hK K
                                refine norm_ (a' := ?_) ?_ ?_
                                rotate_left
                                · show Act.put _ (some 106) _ = _
                                  simp only [Act.put, List.setIfInBounds_toArray, List.set_cons_zero, List.set_cons_succ, i64_w, i32_w]
                                  rfl
                                refine pure_ (i := 63) (N := some 107) (v := ?_) (a' := ?_) #[true, true, true, true, true, true, true, true, true, true, true, true, true, true, true, true, true, true, true, true, true, true, true, true, true, true, true, true, true, true, true, true, true, true, true, true, true, true, true, true, true, true, true, true, true, true, true, true, true, true, true, true, true, true, true, true, true, true, true, true, true, true, true, true, false, false, false] rfl rfl (any_of HT_.out (by kernel_rfl)) (fun _ _ _ h => h) (Or.inl ⟨by rfl, ?_⟩) ?_ ?_
                                rotate_left
                                · intro w'
                                  go_simp
                                  with_reducible rfl
                                rotate_left
                                · simp only [Act.put, List.setIfInBounds_toArray, List.set_cons_zero, List.set_cons_succ, i64_w, i32_w]
                                  rfl
                                refine pure_ (i := 64) (N := some 108) (v := ?_) (a' := ?_) #[true, true, true, true, true, true, true, true, true, true, true, true, true, true, true, true, true, true, true, true, true, true, true, true, true, true, true, true, true, true, true, true, true, true, true, true, true, true, true, true, true, true, true, true, true, true, true, true, true, true, true, true, true, true, true, true, true, true, true, true, true, true, true, true, true, false, false] rfl rfl (any_of HT_.out (by kernel_rfl)) (fun _ _ _ h => h) (Or.inl ⟨by rfl, ?_⟩) ?_ ?_
                                rotate_left
                                · intro w'
                                  go_simp
                                  with_reducible rfl
                                rotate_left
                                · simp only [Act.put, List.setIfInBounds_toArray, List.set_cons_zero, List.set_cons_succ, i64_w, i32_w]
                                  rfl
                                refine pure_ (i := 65) (N := some 109) (v := ?_) (a' := ?_) #[true, true, true, true, true, true, true, true, true, true, true, true, true, true, true, true, true, true, true, true, true, true, true, true, true, true, true, true, true, true, true, true, true, true, true, true, true, true, true, true, true, true, true, true, true, true, true, true, true, true, true, true, true, true, true, true, true, true, true, true, true, true, true, true, true, true, false] rfl rfl (any_of HT_.out (by kernel_rfl)) (fun _ _ _ h => h) (Or.inl ⟨by rfl, ?_⟩) ?_ ?_
                                rotate_left
                                · intro w'
                                  go_simp
                                  with_reducible rfl
                                rotate_left
                                · simp only [Act.put, List.setIfInBounds_toArray, List.set_cons_zero, List.set_cons_succ, i64_w, i32_w]
                                  rfl
                                refine pure_ (i := 66) (N := some 0) (v := ?_) (a' := ?_) #[true, true, true, true, true, true, true, true, true, true, true, true, true, true, true, true, true, true, true, true, true, true, true, true, true, true, true, true, true, true, true, true, true, true, true, true, true, true, true, true, true, true, true, true, true, true, true, true, true, true, true, true, true, true, true, true, true, true, true, true, true, true, true, true, true, true, true] rfl rfl (any_of HT_.out (by kernel_rfl)) (fun _ _ _ h => h) (Or.inl ⟨by rfl, ?_⟩) ?_ ?_
                                rotate_left
                                · intro w'
                                  go_simp
                                  with_reducible rfl
                                rotate_left
                                · simp only [Act.put, List.setIfInBounds_toArray, List.set_cons_zero, List.set_cons_succ, i64_w, i32_w]
                                  rfl
                                refine done_ (done_of HT_.out (by kernel_rfl)) ?_
                                try go_wp2
                                go_ret
                                exact ⟨by first | rfl | (simp [errW_none, errW_some] <;> rfl) | (simp [*, errW_none, errW_some] <;> rfl), by repeat (first | (with_reducible first | exact HB.out | apply below_alloc | apply pw_below_drewN | apply below_drew1 | refine below_set ?_ GE271.out | refine below_set ?_ GE272.out | refine below_set ?_ GE296.out) | exact HB.out)⟩
                              · rw [if_neg c21] at H
                                exact absurd H (by simp)
                            · rw [if_neg c19] at H
                              exact absurd H (by simp)
                          · replace c18 := Bool.eq_false_iff.mpr c18
                            subst c18
                            have H1 : (none) = some r := by rw [if_neg (show ¬ (false = true) by decide)] at H; exact H
                            clear H
                            have H := H1
                            clear H1
                            exact absurd H (by simp)
                        · rw [if_neg c17] at H
                          exact absurd H (by simp)
                      · rw [if_neg c16] at H
                        exact absurd H (by simp)
                    · rw [if_neg c15] at H
                      exact absurd H (by simp)
                  · rw [if_neg c14] at H
                    exact absurd H (by simp)
                · rw [if_neg c13] at H
                  exact absurd H (by simp)
              · rw [if_neg c12] at H
                exact absurd H (by simp)
            · rw [if_neg c11] at H
              exact absurd H (by simp)
          · rw [if_neg c10] at H
            exact absurd H (by simp)
        · rw [if_neg c9] at H
          exact absurd H (by simp)
      · rw [if_neg c8] at H
        exact absurd H (by simp)
    · rw [if_neg c7] at H
      exact absurd H (by simp)
  · rw [if_neg c6] at H
    exact absurd H (by simp)
end Go.Proofs.YtaedhehiifkcbaaDoor.PG
namespace Go.Proofs.YtaedhehiifkcbaaDoor.PG
open Go.RowKit Go.Proofs.YtaedhehiifkcbaaDoorW.PrintWords Go.Proofs.YtaedhehiifkcbaaDoorW.PrintLast Go.Proofs.YtaedhehiifkcbaaDoorW.PrintMore
attribute [local go_sem] max2_int min2_int max_two min_two max_three min_three max_four min_four   -- for this text's walks alone
set_option linter.unusedVariables false
set_option linter.unusedSimpArgs false
def afterglowref02_digit.f (a0 : Int) : Option (ByteArray) := if a0 < 10 then (some (strOfNums (([(wrap64 (48 + a0)) % 256] : List Int)))) else (some (strOfNums (([(wrap64 (87 + a0)) % 256] : List Int))))
set_option maxHeartbeats 8000000 in
set_option maxRecDepth 100000 in
theorem afterglowref02_digit.calls (a0 : Int) (r : ByteArray) (w : World) (h : afterglowref02_digit.f a0 = some r) :
    Calls Tryd.prog 48 #[.int .i64 a0] w fun e w' => e = .returned (.string r) ∧ Below w.heap.size w w' := by
  have HB := Aside0.mk (Below.refl w.heap.size w)
  have H : (if a0 < 10 then (some (strOfNums (([(wrap64 (48 + a0)) % 256] : List Int)))) else (some (strOfNums (([(wrap64 (87 + a0)) % 256] : List Int))))) = some r := h
  clear h
  by_cases c2 : a0 < 10
  · rw [if_pos c2] at H
    have c2b0 : decide (a0 < 10) = true := decide_eq_true c2
    clear c2
    obtain ⟨y108, hy108⟩ : ∃ y_ : List Int, y_ = (([(wrap64 (48 + a0)) % 256] : List Int)) := ⟨_, rfl⟩
    replace H : (some (strOfNums y108)) = some r := by first | (rw [hy108]; with_reducible exact H) | (have H2_ := (Option.bind_some _ _).symm.trans H; rw [hy108]; with_reducible exact H2_) | (have H2_ := (Option.bind_some _ _).symm.trans H; with_reducible exact H2_) | with_reducible exact H | (rw [hy108]; exact H) | exact H
    have Ny108 := Aside0.mk hy108
    clear hy108
    obtain rfl := Option.some.inj H
    go_enter Tryd.func48, Tryd.ntmps48
    go_wp2_with (first | ((with_reducible refine gate_dst (N := 8) rfl ?_); refine Kd.R_lit (Kd.int .u8) _ 5 ?hg (N := 8) ?hd (xs := ([(wrap64 (48 + a0)) % 256] : List Int)) (inner := [.int .u8 ((wrap64 (48 + a0)) % 256)]) (ok := fun _ => True) (okp := fun _ => True) ?hr ?hp (fun _ hk => hk) trivial (Below.refl _ _) (Nat.le_refl _) (by simp) ?_; (case hd => rfl); (case hg => rfl); (case hr => first | (go_simp; done) | (go_simp; rfl)); (case hp => exact (Reps.one (show Kd.M (Kd.int .u8) _ _ _ ((wrap64 (48 + a0)) % 256) [.int .u8 ((wrap64 (48 + a0)) % 256)] from rfl) (Reps.none _ _))); intro v109 w3 ho4 hb hg_ hnew_; clear hg_ hnew_; (first | rw [← Ny108.out] at ho4 | (simp only [Int.reduceToNat] at ho4; rw [← Ny108.out] at ho4)); have n0_ := Aside0.mk (Kd.R_lower ho4 (below_size (by repeat (first | (with_reducible first | exact HB.out | apply below_alloc | apply pw_below_drewN | apply below_drew1) | exact HB.out)))); have n1_ := Aside0.mk (below_step (by repeat (first | (with_reducible first | exact HB.out | apply below_alloc | apply pw_below_drewN | apply below_drew1) | exact HB.out)) hb); clear HB; have HO110 := n0_; have HB := n1_; clear n0_ n1_; clear hb ho4; have hcv5 := own_string (P := Tryd.prog) Tryd.underlying74 Tryd.underlying5 Tryd.underlying9 (Kd.own_of_R HO110.out)))
    go_ret
    exact ⟨by first | rfl | (simp [errW_none, errW_some] <;> rfl) | (simp [*, errW_none, errW_some] <;> rfl), by repeat (first | (with_reducible first | exact HB.out | apply below_alloc | apply pw_below_drewN | apply below_drew1) | exact HB.out)⟩
  · rw [if_neg c2] at H
    have c2b0 : decide (a0 < 10) = false := decide_eq_false c2
    clear c2
    obtain ⟨y111, hy111⟩ : ∃ y_ : List Int, y_ = (([(wrap64 (87 + a0)) % 256] : List Int)) := ⟨_, rfl⟩
    replace H : (some (strOfNums y111)) = some r := by first | (rw [hy111]; with_reducible exact H) | (have H2_ := (Option.bind_some _ _).symm.trans H; rw [hy111]; with_reducible exact H2_) | (have H2_ := (Option.bind_some _ _).symm.trans H; with_reducible exact H2_) | with_reducible exact H | (rw [hy111]; exact H) | exact H
    have Ny111 := Aside0.mk hy111
    clear hy111
    obtain rfl := Option.some.inj H
    go_enter Tryd.func48, Tryd.ntmps48
    go_wp2_with (first | ((with_reducible refine gate_dst (N := 13) rfl ?_); refine Kd.R_lit (Kd.int .u8) _ 5 ?hg (N := 13) ?hd (xs := ([(wrap64 (87 + a0)) % 256] : List Int)) (inner := [.int .u8 ((wrap64 (87 + a0)) % 256)]) (ok := fun _ => True) (okp := fun _ => True) ?hr ?hp (fun _ hk => hk) trivial (Below.refl _ _) (Nat.le_refl _) (by simp) ?_; (case hd => rfl); (case hg => rfl); (case hr => first | (go_simp; done) | (go_simp; rfl)); (case hp => exact (Reps.one (show Kd.M (Kd.int .u8) _ _ _ ((wrap64 (87 + a0)) % 256) [.int .u8 ((wrap64 (87 + a0)) % 256)] from rfl) (Reps.none _ _))); intro v112 w6 ho7 hb hg_ hnew_; clear hg_ hnew_; (first | rw [← Ny111.out] at ho7 | (simp only [Int.reduceToNat] at ho7; rw [← Ny111.out] at ho7)); have n0_ := Aside0.mk (Kd.R_lower ho7 (below_size (by repeat (first | (with_reducible first | exact HB.out | apply below_alloc | apply pw_below_drewN | apply below_drew1) | exact HB.out)))); have n1_ := Aside0.mk (below_step (by repeat (first | (with_reducible first | exact HB.out | apply below_alloc | apply pw_below_drewN | apply below_drew1) | exact HB.out)) hb); clear HB; have HO113 := n0_; have HB := n1_; clear n0_ n1_; clear hb ho7; have hcv8 := own_string (P := Tryd.prog) Tryd.underlying74 Tryd.underlying5 Tryd.underlying9 (Kd.own_of_R HO113.out)))
    go_ret
    exact ⟨by first | rfl | (simp [errW_none, errW_some] <;> rfl) | (simp [*, errW_none, errW_some] <;> rfl), by repeat (first | (with_reducible first | exact HB.out | apply below_alloc | apply pw_below_drewN | apply below_drew1) | exact HB.out)⟩
end Go.Proofs.YtaedhehiifkcbaaDoor.PG
namespace Go.Proofs.YtaedhehiifkcbaaDoor.PG
open Go.RowKit Go.Proofs.YtaedhehiifkcbaaDoorW.PrintWords Go.Proofs.YtaedhehiifkcbaaDoorW.PrintLast Go.Proofs.YtaedhehiifkcbaaDoorW.PrintMore
attribute [local go_sem] max2_int min2_int max_two min_two max_three min_three max_four min_four   -- for this text's walks alone
set_option linter.unusedVariables false
set_option linter.unusedSimpArgs false
mutual
def afterglowref02_Dec.j0 : Nat → Int → Bool → Option (ByteArray)
  | 0, _, _ => none
  | k + 1, x0, x9 => if x9 = true then (some (⟨#[]⟩ : ByteArray)) else (if x0 = 0 then (some (⟨#[48]⟩ : ByteArray)) else (afterglowref02_Dec.l0 k x0 (⟨#[]⟩ : ByteArray)))
def afterglowref02_Dec.l0 : Nat → Int → ByteArray → Option (ByteArray)
  | 0, _, _ => none
  | k + 1, x0, x3 => if x0 > 0 then ((afterglowref02_digit.f (Int.tmod x0 10)).bind fun t156 => (if t156.size + x3.size ≤ 9223372036854775807 then (afterglowref02_Dec.l0 k (wrap64 (Int.tdiv x0 10)) (t156 ++ x3)) else (none))) else (some x3)
end
def afterglowref02_Dec.f (k : Nat) (a0 : Int) : Option (ByteArray) := if a0 < 0 then (afterglowref02_Dec.j0 k a0 true) else (afterglowref02_Dec.j0 k a0 (decide (a0 > 1099511627776)))
set_option maxHeartbeats 8000000 in
set_option maxRecDepth 100000 in
theorem afterglowref02_Dec.calls (k : Nat) (a0 : Int) (r : ByteArray) (w : World) (h : afterglowref02_Dec.f k a0 = some r) :
    Calls Tryd.prog 22 #[.int .i64 a0] w fun e w' => e = .returned (.string r) ∧ Below w.heap.size w w' := by
  have HB := Aside0.mk (Below.refl w.heap.size w)
  have H : (if a0 < 0 then (afterglowref02_Dec.j0 k a0 true) else (afterglowref02_Dec.j0 k a0 (decide (a0 > 1099511627776)))) = some r := h
  clear h
  have HC2 := Aside0.mk H
  clear H
  go_enter Tryd.func22, Tryd.ntmps22
  go_upto_region 1 with (fail)
  go_cut [9] (fun v9 wc => ∃ (kq : Nat) (x9_1 : Bool), v9 = .bool x9_1 ∧ Aside0 (afterglowref02_Dec.j0 kq a0 x9_1 = some r) ∧ Aside0 (kq ≤ k) ∧ Aside0 (Below w.heap.size w wc))
  case first =>
    have H := HC2.out
    clear HC2
    by_cases c3 : a0 < 0
    · rw [if_pos c3] at H
      have c3b0 : decide (a0 < 0) = true := decide_eq_true c3
      clear c3
      (first | rw [c3b0] | (simp only [i64_w, i32_w]; rw [c3b0]) | skip)
      have H' := Aside0.mk H
      clear H
      go_wp2
      go_meet
      case rel => exact ⟨_, (true), (by first | rfl | (simp; done) | (simp [*]; done)), H', ⟨by first | omega | exact Nat.le_refl _⟩, ⟨by repeat (first | (with_reducible first | exact HB.out | apply below_alloc | apply pw_below_drewN | apply below_drew1) | exact HB.out)⟩⟩
    · rw [if_neg c3] at H
      have c3b0 : decide (a0 < 0) = false := decide_eq_false c3
      clear c3
      (first | rw [c3b0] | (simp only [i64_w, i32_w]; rw [c3b0]) | skip)
      have H' := Aside0.mk H
      clear H
      go_wp2
      go_meet
      case rel => exact ⟨_, (decide (a0 > 1099511627776)), (by first | rfl | (simp; done) | (simp [*]; done)), H', ⟨by first | omega | exact Nat.le_refl _⟩, ⟨by repeat (first | (with_reducible first | exact HB.out | apply below_alloc | apply pw_below_drewN | apply below_drew1) | exact HB.out)⟩⟩
  case rest =>
    clear HC2
    try clear c2
    try clear p2
    try clear c3
    try clear c3b0
    obtain ⟨kq, x9_1, rfl, HA, HJ1, HB⟩ := hcut
    cases kq with
    | zero => exact absurd HA.out (by simp [afterglowref02_Dec.j0])
    | succ kj1 =>
      have H := HA.out
      clear HA
      simp only [afterglowref02_Dec.j0] at H
      by_cases c4 : x9_1 = true
      · subst c4
        have H1 : (some (⟨#[]⟩ : ByteArray)) = some r := by rw [if_pos rfl] at H; exact H
        clear H
        have H := H1
        clear H1
        obtain rfl := Option.some.inj H
        go_wp2
        go_ret
        exact ⟨by first | rfl | (simp [errW_none, errW_some] <;> rfl) | (simp [*, errW_none, errW_some] <;> rfl), by repeat (first | (with_reducible first | exact HB.out | apply below_alloc | apply pw_below_drewN | apply below_drew1) | exact HB.out)⟩
      · replace c4 := Bool.eq_false_iff.mpr c4
        subst c4
        have H1 : (if a0 = 0 then (some (⟨#[48]⟩ : ByteArray)) else (afterglowref02_Dec.l0 kj1 a0 (⟨#[]⟩ : ByteArray))) = some r := by rw [if_neg (show ¬ (false = true) by decide)] at H; exact H
        clear H
        have H := H1
        clear H1
        by_cases c5 : a0 = 0
        · rw [if_pos c5] at H
          have c5b0 : (a0 == 0) = true := beq_iff_eq.mpr c5
          have c5b1 : (a0 != 0) = false := bne_eq_false_iff_eq.mpr c5
          clear c5
          obtain rfl := Option.some.inj H
          go_wp2
          go_ret
          exact ⟨by first | rfl | (simp [errW_none, errW_some] <;> rfl) | (simp [*, errW_none, errW_some] <;> rfl), by repeat (first | (with_reducible first | exact HB.out | apply below_alloc | apply pw_below_drewN | apply below_drew1) | exact HB.out)⟩
        · rw [if_neg c5] at H
          have c5b0 : (a0 == 0) = false := beq_eq_false_iff_ne.mpr c5
          have c5b1 : (a0 != 0) = true := bne_iff_ne.mpr c5
          have H' := Aside0.mk H
          clear H
          go_wp2
          go_loopg [0, 3] kj1 (fun kq v0 v3 w' => ∃ (x0_2 : Int) (x3_2 : ByteArray), v0 = .int .i64 x0_2 ∧ v3 = .string x3_2 ∧ Aside0 (afterglowref02_Dec.l0 kq x0_2 x3_2 = some r) ∧ Aside0 (kq ≤ kj1) ∧ Aside0 (Below w.heap.size w w'))
          case atStart => exact ⟨(a0), ((⟨#[]⟩ : ByteArray)), (by first | rfl | (simp; done) | (simp [*]; done)), (by first | rfl | (simp; done) | (simp [*]; done)), H', ⟨Nat.le_refl _⟩, ⟨by repeat (first | (with_reducible first | exact HB.out | apply below_alloc | apply pw_below_drewN | apply below_drew1) | exact HB.out)⟩⟩
          case round =>
            clear H'
            try clear c2
            try clear p2
            try clear c3
            try clear c3b0
            try clear c4
            try clear c5
            try clear c5b0
            try clear c5b1
            try clear p2
            obtain ⟨x0_2, x3_2, rfl, rfl, HA, HK2, HB⟩ := hrel
            cases gk with
            | zero => exact absurd HA.out (by simp [afterglowref02_Dec.l0])
            | succ k2 =>
              have H := HA.out
              clear HA
              simp only [afterglowref02_Dec.l0] at H
              by_cases c6 : x0_2 > 0
              · rw [if_pos c6] at H
                have c6b0 : decide (0 < x0_2) = true := decide_eq_true c6
                clear c6
                replace H := Option.bind_eq_some_iff.mp H
                obtain ⟨t156, A70, H⟩ := H
                replace H : (if t156.size + x3_2.size ≤ 9223372036854775807 then (afterglowref02_Dec.l0 k2 (wrap64 (Int.tdiv x0_2 10)) (t156 ++ x3_2)) else (none)) = some r := H
                have A7 := Aside0.mk A70
                clear A70
                by_cases c8 : t156.size + x3_2.size ≤ 9223372036854775807
                · rw [if_pos c8] at H
                  have c8b0 := eq_true c8
                  have c8b1 : decide (t156.size + x3_2.size ≤ 9223372036854775807) = true := decide_eq_true c8
                  try have c8b2 : (9223372036854775807 < t156.size + x3_2.size) = False := eq_false (Nat.not_lt.2 c8)
                  have H' := Aside0.mk H
                  clear H
                  go_wp2_with (first | ((with_reducible refine gate_callee (f := 48) rfl ?_); refine goesL_ (some 16) rfl rfl Tryd.func48 (by kernel_rfl) rfl #[.int .i64 (Int.tmod x0_2 10)] rfl (by (try simp only [List.map_toArray, List.map_cons, List.map_nil]); first | done | rfl | (simp only [List.length_drop, List.length_take]; rfl)) ?_; (with_reducible refine (afterglowref02_digit.calls (Int.tmod x0_2 10) t156 _ A7.out).mono ?_); rintro e w9 ⟨rfl, hb⟩; refine ⟨_, rfl, ?_⟩; have n0_ := Aside0.mk (below_step (by repeat (first | (with_reducible first | exact HB.out | apply below_alloc | apply pw_below_drewN | apply below_drew1) | exact HB.out)) hb); clear HB; have HB := n0_; clear n0_; (try clear hb); (try clear hb2); (try clear hk); (try clear hi)))
                  go_roundg k2
                  case measure => have := HJ1.out; have := HK2.out; omega
                  case rel => exact ⟨(wrap64 (Int.tdiv x0_2 10)), (t156 ++ x3_2), (by first | rfl | (simp; done) | (simp [*]; done)), (by first | rfl | (simp; done) | (simp [*]; done)), H', ⟨by have := HJ1.out; have := HK2.out; omega⟩, ⟨by repeat (first | (with_reducible first | exact HB.out | apply below_alloc | apply pw_below_drewN | apply below_drew1) | exact HB.out)⟩⟩
                · rw [if_neg c8] at H
                  exact absurd H (by simp)
              · rw [if_neg c6] at H
                have c6b0 : decide (0 < x0_2) = false := decide_eq_false c6
                clear c6
                obtain rfl := Option.some.inj H
                go_wp2
                go_ret
                exact ⟨by first | rfl | (simp [errW_none, errW_some] <;> rfl) | (simp [*, errW_none, errW_some] <;> rfl), by repeat (first | (with_reducible first | exact HB.out | apply below_alloc | apply pw_below_drewN | apply below_drew1) | exact HB.out)⟩
mutual
def afterglowref02_Undec.j0 : Nat → ByteArray → Bool → Option (Int × Bool)
  | 0, _, _ => none
  | k + 1, x0, x13 => if x13 = true then (some (0, false)) else (afterglowref02_Undec.l0 k x0 0 0)
def afterglowref02_Undec.l0 : Nat → ByteArray → Int → Int → Option (Int × Bool)
  | 0, _, _, _ => none
  | k + 1, x0, x4, x5 => if x5 < (x0.size : Int) then (if 0 ≤ x5 then (if (bt x0 x5) < 48 then (some (0, false)) else (if (bt x0 x5) > 57 then (some (0, false)) else (afterglowref02_Undec.l0 k x0 (wrap64 ((wrap64 ((wrap64 (10 * x4)) + (wrap64 (bt x0 x5)))) - 48)) (wrap64 (x5 + 1))))) else (none)) else ((afterglowref02_Dec.f k x4).bind fun t157 => (if t157.toList = x0.toList then (some (x4, true)) else (some (0, false))))
end
def afterglowref02_Undec.f (k : Nat) (a0 : ByteArray) : Option (Int × Bool) := if (a0.size : Int) < 1 then (afterglowref02_Undec.j0 k a0 true) else (afterglowref02_Undec.j0 k a0 (decide ((a0.size : Int) > 13)))
set_option maxHeartbeats 8000000 in
set_option maxRecDepth 100000 in
theorem afterglowref02_Undec.calls (k : Nat) (a0 : ByteArray) (r1 : Int) (r2 : Bool) (w : World) (h : afterglowref02_Undec.f k a0 = some (r1, r2)) :
    Calls Tryd.prog 21 #[.string a0] w fun e w' => e = .returned (.tuple #[.int .i64 r1, .bool r2]) ∧ Below w.heap.size w w' := by
  have HB := Aside0.mk (Below.refl w.heap.size w)
  have H : (if (a0.size : Int) < 1 then (afterglowref02_Undec.j0 k a0 true) else (afterglowref02_Undec.j0 k a0 (decide ((a0.size : Int) > 13)))) = some (r1, r2) := h
  clear h
  have HC2 := Aside0.mk H
  clear H
  go_enter Tryd.func21, Tryd.ntmps21
  go_upto_region 1 with (fail)
  go_cut [13] (fun v13 wc => ∃ (kq : Nat) (x13_1 : Bool), v13 = .bool x13_1 ∧ Aside0 (afterglowref02_Undec.j0 kq a0 x13_1 = some (r1, r2)) ∧ Aside0 (kq ≤ k) ∧ Aside0 (Below w.heap.size w wc))
  case first =>
    have H := HC2.out
    clear HC2
    by_cases c3 : (a0.size : Int) < 1
    · rw [if_pos c3] at H
      have c3b0 : decide ((a0.size : Int) < 1) = true := decide_eq_true c3
      have c3b1 : decide (a0.size < 1) = true := decide_eq_true (by omega)
      clear c3
      (first | rw [c3b0] | (simp only [i64_w, i32_w]; rw [c3b0]) | skip)
      have H' := Aside0.mk H
      clear H
      go_wp2
      go_meet
      case rel => exact ⟨_, (true), (by first | rfl | (simp; done) | (simp [*]; done)), H', ⟨by first | omega | exact Nat.le_refl _⟩, ⟨by repeat (first | (with_reducible first | exact HB.out | apply below_alloc | apply pw_below_drewN | apply below_drew1) | exact HB.out)⟩⟩
    · rw [if_neg c3] at H
      have c3b0 : decide ((a0.size : Int) < 1) = false := decide_eq_false c3
      have c3b1 : decide (a0.size < 1) = false := decide_eq_false (by omega)
      clear c3
      (first | rw [c3b0] | (simp only [i64_w, i32_w]; rw [c3b0]) | skip)
      have H' := Aside0.mk H
      clear H
      go_wp2
      go_meet
      case rel => exact ⟨_, (decide ((a0.size : Int) > 13)), (by first | rfl | (simp; done) | (simp [*]; done)), H', ⟨by first | omega | exact Nat.le_refl _⟩, ⟨by repeat (first | (with_reducible first | exact HB.out | apply below_alloc | apply pw_below_drewN | apply below_drew1) | exact HB.out)⟩⟩
  case rest =>
    clear HC2
    try clear c2
    try clear p2
    try clear c3
    try clear c3b0
    try clear c3b1
    obtain ⟨kq, x13_1, rfl, HA, HJ1, HB⟩ := hcut
    cases kq with
    | zero => exact absurd HA.out (by simp [afterglowref02_Undec.j0])
    | succ kj1 =>
      have H := HA.out
      clear HA
      simp only [afterglowref02_Undec.j0] at H
      by_cases c4 : x13_1 = true
      · subst c4
        have H1 : (some (0, false)) = some (r1, r2) := by rw [if_pos rfl] at H; exact H
        clear H
        have H := H1
        clear H1
        simp only [Option.some.injEq, Prod.mk.injEq] at H
        obtain ⟨rfl, rfl⟩ := H
        go_wp2
        go_ret2
        exact ⟨by first | rfl | (simp [errW_none, errW_some] <;> rfl) | (simp [*, errW_none, errW_some] <;> rfl), by repeat (first | (with_reducible first | exact HB.out | apply below_alloc | apply pw_below_drewN | apply below_drew1) | exact HB.out)⟩
      · replace c4 := Bool.eq_false_iff.mpr c4
        subst c4
        have H1 : (afterglowref02_Undec.l0 kj1 a0 0 0) = some (r1, r2) := by rw [if_neg (show ¬ (false = true) by decide)] at H; exact H
        clear H
        have H := H1
        clear H1
        have H' := Aside0.mk H
        clear H
        go_wp2
        go_loopg [4, 5] kj1 (fun kq v4 v5 w' => ∃ (x4_2 : Int) (x5_2 : Int), v4 = .int .i64 x4_2 ∧ v5 = .int .i64 x5_2 ∧ Aside0 (afterglowref02_Undec.l0 kq a0 x4_2 x5_2 = some (r1, r2)) ∧ Aside0 (kq ≤ kj1) ∧ Aside0 (Below w.heap.size w w'))
        case atStart => exact ⟨(0), (0), (by first | rfl | (simp; done) | (simp [*]; done)), (by first | rfl | (simp; done) | (simp [*]; done)), H', ⟨Nat.le_refl _⟩, ⟨by repeat (first | (with_reducible first | exact HB.out | apply below_alloc | apply pw_below_drewN | apply below_drew1) | exact HB.out)⟩⟩
        case round =>
          clear H'
          try clear c2
          try clear p2
          try clear c3
          try clear c3b0
          try clear c3b1
          try clear c4
          try clear p2
          obtain ⟨x4_2, x5_2, rfl, rfl, HA, HK2, HB⟩ := hrel
          cases gk with
          | zero => exact absurd HA.out (by simp [afterglowref02_Undec.l0])
          | succ k2 =>
            have H := HA.out
            clear HA
            simp only [afterglowref02_Undec.l0] at H
            by_cases c5 : x5_2 < (a0.size : Int)
            · rw [if_pos c5] at H
              have c5b0 : decide (x5_2 < (a0.size : Int)) = true := decide_eq_true c5
              clear c5
              by_cases c6 : 0 ≤ x5_2
              · rw [if_pos c6] at H
                have c6b0 : decide (0 ≤ x5_2) = true := decide_eq_true c6
                clear c6
                by_cases c8 : (bt a0 x5_2) < 48
                · rw [if_pos c8] at H
                  have c8b0 : decide ((bt a0 x5_2) < 48) = true := decide_eq_true c8
                  clear c8
                  simp only [Option.some.injEq, Prod.mk.injEq] at H
                  obtain ⟨rfl, rfl⟩ := H
                  have p7 : 0 ≤ (x5_2 : Int) := of_decide_eq_true (by first | (with_reducible assumption) | assumption)
                  have q7 : x5_2 < (a0.size : Int) := of_decide_eq_true (by first | (with_reducible assumption) | assumption)
                  have hx7 := bt_at a0 x5_2
                  replace p7 := eq_true p7
                  replace q7 := eq_true q7
                  go_wp2
                  go_ret2
                  exact ⟨by first | rfl | (simp [errW_none, errW_some] <;> rfl) | (simp [*, errW_none, errW_some] <;> rfl), by repeat (first | (with_reducible first | exact HB.out | apply below_alloc | apply pw_below_drewN | apply below_drew1) | exact HB.out)⟩
                · rw [if_neg c8] at H
                  have c8b0 : decide ((bt a0 x5_2) < 48) = false := decide_eq_false c8
                  clear c8
                  by_cases c10 : (bt a0 x5_2) > 57
                  · rw [if_pos c10] at H
                    have c10b0 : decide (57 < (bt a0 x5_2)) = true := decide_eq_true c10
                    clear c10
                    simp only [Option.some.injEq, Prod.mk.injEq] at H
                    obtain ⟨rfl, rfl⟩ := H
                    have p7 : 0 ≤ (x5_2 : Int) := of_decide_eq_true (by first | (with_reducible assumption) | assumption)
                    have q7 : x5_2 < (a0.size : Int) := of_decide_eq_true (by first | (with_reducible assumption) | assumption)
                    have hx7 := bt_at a0 x5_2
                    replace p7 := eq_true p7
                    replace q7 := eq_true q7
                    have p9 : 0 ≤ (x5_2 : Int) := of_decide_eq_true (by first | (with_reducible assumption) | assumption)
                    have q9 : x5_2 < (a0.size : Int) := of_decide_eq_true (by first | (with_reducible assumption) | assumption)
                    have hx9 := bt_at a0 x5_2
                    replace p9 := eq_true p9
                    replace q9 := eq_true q9
                    go_wp2
                    go_ret2
                    exact ⟨by first | rfl | (simp [errW_none, errW_some] <;> rfl) | (simp [*, errW_none, errW_some] <;> rfl), by repeat (first | (with_reducible first | exact HB.out | apply below_alloc | apply pw_below_drewN | apply below_drew1) | exact HB.out)⟩
                  · rw [if_neg c10] at H
                    have c10b0 : decide (57 < (bt a0 x5_2)) = false := decide_eq_false c10
                    clear c10
                    have H' := Aside0.mk H
                    clear H
                    have p7 : 0 ≤ (x5_2 : Int) := of_decide_eq_true (by first | (with_reducible assumption) | assumption)
                    have q7 : x5_2 < (a0.size : Int) := of_decide_eq_true (by first | (with_reducible assumption) | assumption)
                    have hx7 := bt_at a0 x5_2
                    replace p7 := eq_true p7
                    replace q7 := eq_true q7
                    have p9 : 0 ≤ (x5_2 : Int) := of_decide_eq_true (by first | (with_reducible assumption) | assumption)
                    have q9 : x5_2 < (a0.size : Int) := of_decide_eq_true (by first | (with_reducible assumption) | assumption)
                    have hx9 := bt_at a0 x5_2
                    replace p9 := eq_true p9
                    replace q9 := eq_true q9
                    have p11 : 0 ≤ (x5_2 : Int) := of_decide_eq_true (by first | (with_reducible assumption) | assumption)
                    have q11 : x5_2 < (a0.size : Int) := of_decide_eq_true (by first | (with_reducible assumption) | assumption)
                    have hx11 := bt_at a0 x5_2
                    replace p11 := eq_true p11
                    replace q11 := eq_true q11
                    go_wp2
                    go_roundg k2
                    case measure => have := HJ1.out; have := HK2.out; omega
                    case rel => exact ⟨(wrap64 ((wrap64 ((wrap64 (10 * x4_2)) + (wrap64 (bt a0 x5_2)))) - 48)), (wrap64 (x5_2 + 1)), (by first | rfl | (simp; done) | (simp [*]; done)), (by first | rfl | (simp; done) | (simp [*]; done)), H', ⟨by have := HJ1.out; have := HK2.out; omega⟩, ⟨by repeat (first | (with_reducible first | exact HB.out | apply below_alloc | apply pw_below_drewN | apply below_drew1) | exact HB.out)⟩⟩
              · rw [if_neg c6] at H
                exact absurd H (by simp)
            · rw [if_neg c5] at H
              have c5b0 : decide (x5_2 < (a0.size : Int)) = false := decide_eq_false c5
              clear c5
              replace H := Option.bind_eq_some_iff.mp H
              obtain ⟨t157, A120, H⟩ := H
              replace H : (if t157.toList = a0.toList then (some (x4_2, true)) else (some (0, false))) = some (r1, r2) := H
              have A12 := Aside0.mk A120
              clear A120
              by_cases c13 : t157.toList = a0.toList
              · rw [if_pos c13] at H
                have c13b0 : (t157.toList == a0.toList) = true := beq_iff_eq.mpr c13
                have c13b1 : (t157.toList != a0.toList) = false := bne_eq_false_iff_eq.mpr c13
                clear c13
                simp only [Option.some.injEq, Prod.mk.injEq] at H
                obtain ⟨rfl, rfl⟩ := H
                go_wp2_with (first | ((with_reducible refine gate_callee (f := 22) rfl ?_); refine goesL_ (some 39) rfl rfl Tryd.func22 (by kernel_rfl) rfl #[.int .i64 x4_2] rfl (by (try simp only [List.map_toArray, List.map_cons, List.map_nil]); first | done | rfl | (simp only [List.length_drop, List.length_take]; rfl)) ?_; (with_reducible refine (afterglowref02_Dec.calls k2 x4_2 t157 _ A12.out).mono ?_); rintro e w14 ⟨rfl, hb⟩; refine ⟨_, rfl, ?_⟩; have n0_ := Aside0.mk (below_step (by repeat (first | (with_reducible first | exact HB.out | apply below_alloc | apply pw_below_drewN | apply below_drew1) | exact HB.out)) hb); clear HB; have HB := n0_; clear n0_; (try clear hb); (try clear hb2); (try clear hk); (try clear hi)))
                go_ret2
                exact ⟨by first | rfl | (simp [errW_none, errW_some] <;> rfl) | (simp [*, errW_none, errW_some] <;> rfl), by repeat (first | (with_reducible first | exact HB.out | apply below_alloc | apply pw_below_drewN | apply below_drew1) | exact HB.out)⟩
              · rw [if_neg c13] at H
                have c13b0 : (t157.toList == a0.toList) = false := beq_eq_false_iff_ne.mpr c13
                have c13b1 : (t157.toList != a0.toList) = true := bne_iff_ne.mpr c13
                simp only [Option.some.injEq, Prod.mk.injEq] at H
                obtain ⟨rfl, rfl⟩ := H
                go_wp2_with (first | ((with_reducible refine gate_callee (f := 22) rfl ?_); refine goesL_ (some 39) rfl rfl Tryd.func22 (by kernel_rfl) rfl #[.int .i64 x4_2] rfl (by (try simp only [List.map_toArray, List.map_cons, List.map_nil]); first | done | rfl | (simp only [List.length_drop, List.length_take]; rfl)) ?_; (with_reducible refine (afterglowref02_Dec.calls k2 x4_2 t157 _ A12.out).mono ?_); rintro e w15 ⟨rfl, hb⟩; refine ⟨_, rfl, ?_⟩; have n0_ := Aside0.mk (below_step (by repeat (first | (with_reducible first | exact HB.out | apply below_alloc | apply pw_below_drewN | apply below_drew1) | exact HB.out)) hb); clear HB; have HB := n0_; clear n0_; (try clear hb); (try clear hb2); (try clear hk); (try clear hi)))
                go_ret2
                exact ⟨by first | rfl | (simp [errW_none, errW_some] <;> rfl) | (simp [*, errW_none, errW_some] <;> rfl), by repeat (first | (with_reducible first | exact HB.out | apply below_alloc | apply pw_below_drewN | apply below_drew1) | exact HB.out)⟩
end Go.Proofs.YtaedhehiifkcbaaDoor.PG
