/- Short words for what the printed walks say again and again. -/
import Derived.Test.YtgholjhcbhcicaaDoorProg
import Derived.Test.YtgholjhcbhcicaaDoorWWords
import Derived.Test.YtgholjhcbhcicaaDoorWMore
namespace Go.Proofs.YtgholjhcbhcicaaDoor
open Go.RowKit Go.Proofs.YtgholjhcbhcicaaDoorW.PrintWords
/-- A block's content, behind draws and new blocks. -/
theorem bl_ {q p : Prop} (h : q) (f : q → p := by intro h; (with_reducible repeat (first | refine blk_drewN ?_ _ | refine blk_drew ?_ | refine blk_alloc ?_ _)); exact h) : p := f h
/-- A row's reading, behind draws and new blocks. -/
theorem rl_ {q p : Prop} (h : q) (f : q → p := by intro h; (with_reducible repeat (first | apply Kd.R_alloc | apply Kd.R_drewN | apply Kd.R_drew)); exact h) : p := f h
/-- What lay below lies as it lay. -/
theorem bw_ {q p : Prop} (h : q) (f : q → p := by intro h; repeat (first | (with_reducible first | exact h | apply below_alloc | apply pw_below_drewN | apply below_drew1 | refine below_set ?_ (Aside0.out (by assumption))) | exact h)) : p := f h
theorem rr_ {p : Prop} (h : p := by first | rfl | (simp; done) | (simp [*]; done)) : p := h
theorem oa_ {p : Prop} [Decidable p] (h : decide p = true := by first | (with_reducible assumption) | assumption) : p := of_decide_eq_true h
theorem nl_ {w : World} {a : Addr} {v : Value} {g : Nat} (h : w.cell? a = some v) (hg : w.heap.size ≤ g) : a.block ≠ g := Nat.ne_of_lt (Nat.lt_of_lt_of_le (World.block_lt_of_cell? _ _ h) hg)
end Go.Proofs.YtgholjhcbhcicaaDoor
