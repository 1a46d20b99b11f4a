/- What the walks ask of the world: the tables and variables of Go's library that the calls read lie as the row's list says. Kept by all that turns nothing old ('Below'). -/
import Derived.Test.YtaedhehiifkcbaaDoorProg
import Derived.Below
import Derived.Lib.LaidTab
import Derived.Lib.ItoaNum
import Derived.Shelf.Strconv.Itoa3
import Derived.KernelRfl
namespace Go.Proofs.YtaedhehiifkcbaaDoor
open Go.RowKit Go.Sort Go.Lib

theorem var_below {P : Program} {w w1 : World} {nm : String} {cs : Array Value} (h : w.var? P nm = some cs) (hb : Below w.heap.size w w1) : w1.var? P nm = some cs := by
  unfold World.var? at h ⊢
  cases hg : P.globalNamed nm with
  | none => rw [hg] at h; cases h
  | some g =>
    rw [hg] at h
    simp only [Option.bind_some] at h ⊢
    have hlt : g < w.heap.size := by
      apply Classical.byContradiction
      intro hn
      rw [Array.getElem?_eq_none (by omega)] at h
      cases h
    rw [hb.block g hlt]
    exact h

structure Good (w : World) : Prop where
  pow : Lib.TabIs Tryd.prog w "internal/strconv.uint64pow10" .u64 Lib.pow10Tab
  max : ∃ m, w.cell? ⟨0, 0, none⟩ = some (.int .i64 m)
  syn : ∃ tp p, w.var? Tryd.prog "strconv.ErrSyntax" = some #[.iface tp p]
  rng : ∃ tp p, w.var? Tryd.prog "strconv.ErrRange" = some #[.iface tp p]

theorem cell_lt {w : World} {a : Addr} {v : Value} (h : w.cell? a = some v) : a.block < w.heap.size := by
  apply Classical.byContradiction
  intro hn
  unfold World.cell? at h
  rw [Array.getElem?_eq_none (by omega)] at h
  cases h

theorem Good.below {w w1 : World} (h : Good w) (hb : Below w.heap.size w w1) : Good w1 where
  pow := var_below h.pow hb
  max := by
    obtain ⟨m, hm⟩ := h.max
    exact ⟨m, by rw [← hm]; exact hb.cell (cell_lt hm)⟩
  syn := by
    obtain ⟨tp, p, h1⟩ := h.syn
    exact ⟨tp, p, var_below h1 hb⟩
  rng := by
    obtain ⟨tp, p, h1⟩ := h.rng
    exact ⟨tp, p, var_below h1 hb⟩

@[simp] theorem not_bne_nil (l : List UInt8) : (!(l != [])) = l.isEmpty := by cases l <;> rfl

theorem eq_bne_pos {b : Bool} {l : List UInt8} (h : (b == (l != [])) = true) : ((l = []) = (b = false)) ∧ l.isEmpty = !b := by
  cases b <;> cases l <;> simp at h ⊢
theorem eq_bne_neg {b : Bool} {l : List UInt8} (h : ¬ (b == (l != [])) = true) : ((l = []) = (b = true)) ∧ l.isEmpty = b := by
  cases b <;> cases l <;> simp at h ⊢

theorem below_grow_drewN (w : World) (q : Nat) (os : Array Obj) : Below w.heap.size w (grow (w.drewN q) os) :=
  ⟨rfl, rfl, rfl, by first | (simp [grow]; done) | (simp [grow]; omega), fun i hi => by
    show ((w.drewN q).heap ++ os)[i]? = _
    rw [Array.getElem?_append_left (by show i < w.heap.size; omega)]
    rfl⟩
end Go.Proofs.YtaedhehiifkcbaaDoor
