-- Written by wip/tools/fprint.py: the kit's print.py, run with functions of this session's own put in. Not trusted: Lean checks it.
import Derived.Test.YtgholjhcbhcicaaDoorPAllx0
import Derived.Test.YtgholjhcbhcicaaDoorPAllx1
namespace Go.Proofs.YtgholjhcbhcicaaDoor.PAll
open Go.RowKit Go.Proofs.YtgholjhcbhcicaaDoorW.PrintWords Go.Proofs.YtgholjhcbhcicaaDoorW.PrintLast Go.Proofs.YtgholjhcbhcicaaDoorW.PrintMore
attribute [local go_sem] max2_int min2_int max_two min_two max_three min_three max_four min_four   -- for this text's walks alone
set_option linter.unusedVariables false
set_option linter.unusedSimpArgs false

/-! ### eval_difference: function 56 -/
def eval_difference.f (a0_0 : Int) (a0_1 : Int) (a1_0 : Int) (a1_1 : Int) : Option (Int × Int × Int) := if a0_1 = a1_1 then (some ((a0_0 - a1_0) % 4294967296, 0, 0)) else (if a0_1 = 1 then (if a1_1 = 0 then (some ((a0_0 - a1_0) % 4294967296, 1, 0)) else (some (0, 0, 7))) else (some (0, 0, 7)))
set_option maxHeartbeats 8000000 in
set_option maxRecDepth 100000 in
theorem eval_difference.calls (a0_0 : Int) (a0_1 : Int) (a1_0 : Int) (a1_1 : Int) (r1 : Int) (r2 : Int) (r3 : Int) (w : World) (h : eval_difference.f a0_0 a0_1 a1_0 a1_1 = some (r1, r2, r3)) :
    Calls Tryd.prog 56 #[.agg #[.int .u32 a0_0, .int .i64 a0_1], .agg #[.int .u32 a1_0, .int .i64 a1_1]] w fun e w' => e = .returned (.tuple #[.agg #[.int .u32 r1, .int .i64 r2], .int .i64 r3]) ∧ Below w.heap.size w w' := by
  have hu86 := Tryd.underlying86
  have HB := Aside0.mk (Below.refl w.heap.size w)
  have H : (if a0_1 = a1_1 then (some ((a0_0 - a1_0) % 4294967296, 0, 0)) else (if a0_1 = 1 then (if a1_1 = 0 then (some ((a0_0 - a1_0) % 4294967296, 1, 0)) else (some (0, 0, 7))) else (some (0, 0, 7)))) = some (r1, r2, r3) := h
  clear h
  by_cases c3 : a0_1 = a1_1
  · rw [if_pos c3] at H
    have c3b0 : (a0_1 == a1_1) = true := beq_iff_eq.mpr c3
    have c3b1 : (a0_1 != a1_1) = false := bne_eq_false_iff_eq.mpr c3
    clear c3
    simp only [Option.some.injEq, Prod.mk.injEq] at H
    obtain ⟨rfl, rfl, rfl⟩ := H
    go_enter Tryd.func56, Tryd.ntmps56
    go_wp2_with (first | ((with_reducible refine gate_dst (N := 2) rfl ?_); refine box_event ?hg (N := 2) ?hd (cs := #[.int .u32 a0_0, .int .i64 a0_1]) (t := 86) ?hr ?_; (case hd => rfl); (case hg => rfl); (case hr => first | (go_simp; done) | (go_simp; rfl)); intro gb107 hg w4 hbox hb; have n0_ := Aside0.mk (below_step (by repeat (first | (with_reducible first | exact HB.out | apply below_alloc | apply pw_below_drewN | apply below_drew1) | exact HB.out)) hb); have n1_ := Aside0.mk (hbox); have n2_ := Aside0.mk ((by rw [hg]; exact (below_size (by repeat (first | (with_reducible first | exact HB.out | apply below_alloc | apply pw_below_drewN | apply below_drew1) | exact HB.out))) : w.heap.size ≤ gb107)); have n3_ := Aside0.mk ((by rw [hg]; exact (below_size (by repeat (first | (with_reducible first | exact HB.out | apply below_alloc | apply pw_below_drewN | apply below_drew1) | exact HB.out))) : w.heap.size ≤ gb107)); clear HB; have HB := n0_; have BK107 := n1_; have GW107 := n2_; have GE107 := n3_; clear n0_ n1_ n2_ n3_; clear hb hbox hg) | ((with_reducible refine gate_dst (N := 3) rfl ?_); refine box_event ?hg (N := 3) ?hd (cs := #[.int .u32 a1_0, .int .i64 a1_1]) (t := 86) ?hr ?_; (case hd => rfl); (case hg => rfl); (case hr => first | (go_simp; done) | (go_simp; rfl)); intro gb108 hg w5 hbox hb; have n0_ := Aside0.mk (blk_below (g := gb107) (o := .cells #[.int .u32 a0_0, .int .i64 a0_1] 86 (0, 0)) (by (with_reducible repeat (first | refine blk_drewN ?_ _ | refine blk_drew ?_ | refine blk_alloc ?_ _)); exact BK107.out) hb); have n1_ := Aside0.mk (below_step (by repeat (first | (with_reducible first | exact HB.out | apply below_alloc | apply pw_below_drewN | apply below_drew1 | refine below_set ?_ GE107.out) | exact HB.out)) hb); have n2_ := Aside0.mk (hbox); have n3_ := Aside0.mk ((by rw [hg]; exact (below_size (by repeat (first | (with_reducible first | exact HB.out | apply below_alloc | apply pw_below_drewN | apply below_drew1 | refine below_set ?_ GE107.out) | exact HB.out))) : w.heap.size ≤ gb108)); have n4_ := Aside0.mk ((by rw [hg]; exact (below_size (by repeat (first | (with_reducible first | exact HB.out | apply below_alloc | apply pw_below_drewN | apply below_drew1 | refine below_set ?_ GE107.out) | exact HB.out))) : w.heap.size ≤ gb108)); have n5_ := Aside0.mk ((by rw [hg]; exact Nat.ne_of_lt (blk_lt (g := gb107) (o := .cells #[.int .u32 a0_0, .int .i64 a0_1] 86 (0, 0)) (by (with_reducible repeat (first | refine blk_drewN ?_ _ | refine blk_drew ?_ | refine blk_alloc ?_ _)); exact BK107.out)) : gb107 ≠ gb108)); have n6_ := Aside0.mk ((by rw [hg]; exact Nat.ne_of_gt (blk_lt (g := gb107) (o := .cells #[.int .u32 a0_0, .int .i64 a0_1] 86 (0, 0)) (by (with_reducible repeat (first | refine blk_drewN ?_ _ | refine blk_drew ?_ | refine blk_alloc ?_ _)); exact BK107.out)) : gb108 ≠ gb107)); clear BK107; clear HB; have BK107 := n0_; have HB := n1_; have BK108 := n2_; have GW108 := n3_; have GE108 := n4_; have NB107_108 := n5_; have NB108_107 := n6_; clear n0_ n1_ n2_ n3_ n4_ n5_ n6_; clear hb hbox hg) | ((with_reducible refine gate_dst (N := 4) rfl ?_); refine box_event ?hg (N := 4) ?hd (cs := #[.int .u32 0, .int .i64 0]) (t := 86) ?hr ?_; (case hd => rfl); (case hg => rfl); (case hr => first | (go_simp; done) | (go_simp; rfl)); intro gb109 hg w6 hbox hb; have n0_ := Aside0.mk (blk_below (g := gb107) (o := .cells #[.int .u32 a0_0, .int .i64 a0_1] 86 (0, 0)) (by (with_reducible repeat (first | refine blk_drewN ?_ _ | refine blk_drew ?_ | refine blk_alloc ?_ _)); exact BK107.out) hb); have n1_ := Aside0.mk (blk_below (g := gb108) (o := .cells #[.int .u32 a1_0, .int .i64 a1_1] 86 (0, 0)) (by (with_reducible repeat (first | refine blk_drewN ?_ _ | refine blk_drew ?_ | refine blk_alloc ?_ _)); exact BK108.out) hb); have n2_ := Aside0.mk (below_step (by repeat (first | (with_reducible first | exact HB.out | apply below_alloc | apply pw_below_drewN | apply below_drew1 | refine below_set ?_ GE107.out | refine below_set ?_ GE108.out) | exact HB.out)) hb); have n3_ := Aside0.mk (hbox); have n4_ := Aside0.mk ((by rw [hg]; exact (below_size (by repeat (first | (with_reducible first | exact HB.out | apply below_alloc | apply pw_below_drewN | apply below_drew1 | refine below_set ?_ GE107.out | refine below_set ?_ GE108.out) | exact HB.out))) : w.heap.size ≤ gb109)); have n5_ := Aside0.mk ((by rw [hg]; exact (below_size (by repeat (first | (with_reducible first | exact HB.out | apply below_alloc | apply pw_below_drewN | apply below_drew1 | refine below_set ?_ GE107.out | refine below_set ?_ GE108.out) | exact HB.out))) : w.heap.size ≤ gb109)); have n6_ := Aside0.mk ((by rw [hg]; exact Nat.ne_of_lt (blk_lt (g := gb107) (o := .cells #[.int .u32 a0_0, .int .i64 a0_1] 86 (0, 0)) (by (with_reducible repeat (first | refine blk_drewN ?_ _ | refine blk_drew ?_ | refine blk_alloc ?_ _)); exact BK107.out)) : gb107 ≠ gb109)); have n7_ := Aside0.mk ((by rw [hg]; exact Nat.ne_of_gt (blk_lt (g := gb107) (o := .cells #[.int .u32 a0_0, .int .i64 a0_1] 86 (0, 0)) (by (with_reducible repeat (first | refine blk_drewN ?_ _ | refine blk_drew ?_ | refine blk_alloc ?_ _)); exact BK107.out)) : gb109 ≠ gb107)); have n8_ := Aside0.mk ((by rw [hg]; exact Nat.ne_of_lt (blk_lt (g := gb108) (o := .cells #[.int .u32 a1_0, .int .i64 a1_1] 86 (0, 0)) (by (with_reducible repeat (first | refine blk_drewN ?_ _ | refine blk_drew ?_ | refine blk_alloc ?_ _)); exact BK108.out)) : gb108 ≠ gb109)); have n9_ := Aside0.mk ((by rw [hg]; exact Nat.ne_of_gt (blk_lt (g := gb108) (o := .cells #[.int .u32 a1_0, .int .i64 a1_1] 86 (0, 0)) (by (with_reducible repeat (first | refine blk_drewN ?_ _ | refine blk_drew ?_ | refine blk_alloc ?_ _)); exact BK108.out)) : gb109 ≠ gb108)); clear BK107; clear BK108; clear HB; have BK107 := n0_; have BK108 := n1_; have HB := n2_; have BK109 := n3_; have GW109 := n4_; have GE109 := n5_; have NB107_109 := n6_; have NB109_107 := n7_; have NB108_109 := n8_; have NB109_108 := n9_; clear n0_ n1_ n2_ n3_ n4_ n5_ n6_ n7_ n8_ n9_; clear hb hbox hg; have hnb7 := NB107_108.out; have hnc7 := NB108_107.out; have hnb8 := NB107_109.out; have hnc8 := NB109_107.out; have hcz9_0 : w6.cell? ⟨gb107, 0, none⟩ = some (.int .u32 a0_0) := (blk_cell BK107.out 0).trans rfl; have hcz9_1 : w6.cell? ⟨gb107, 1, none⟩ = some (.int .i64 a0_1) := (blk_cell BK107.out 1).trans rfl; have hfz9_0 := blk_frozen BK107.out 0; have hfz9_1 := blk_frozen BK107.out 1; have hnb10 := NB108_109.out; have hnc10 := NB109_108.out; have hcz11_0 : w6.cell? ⟨gb108, 0, none⟩ = some (.int .u32 a1_0) := (blk_cell BK108.out 0).trans rfl; have hcz11_1 : w6.cell? ⟨gb108, 1, none⟩ = some (.int .i64 a1_1) := (blk_cell BK108.out 1).trans rfl; have hfz11_0 := blk_frozen BK108.out 0; have hfz11_1 := blk_frozen BK108.out 1; have hcz12_0 : w6.cell? ⟨gb109, 0, none⟩ = some (.int .u32 0) := (blk_cell BK109.out 0).trans rfl; have hcz12_1 : w6.cell? ⟨gb109, 1, none⟩ = some (.int .i64 0) := (blk_cell BK109.out 1).trans rfl; have hfz12_0 := blk_frozen BK109.out 0; have hfz12_1 := blk_frozen BK109.out 1))
    refine bodyPost_ret (results_ct rfl _ _ gb109 86 #[.int .u32 ((a0_0 - a1_0) % 4294967296), .int .i64 0] (0, 0) _ rfl (by (with_reducible repeat (first | refine blk_drewN ?_ _ | refine blk_drew ?_ | refine blk_alloc ?_ _)); refine blk_put (cs := #[.int .u32 ((a0_0 - a1_0) % 4294967296), .int .i64 0]) ?_ 1 _ rfl; (with_reducible repeat (first | refine blk_drewN ?_ _ | refine blk_drew ?_ | refine blk_alloc ?_ _)); refine blk_put (cs := #[.int .u32 0, .int .i64 0]) ?_ 0 _ rfl; (with_reducible repeat (first | refine blk_drewN ?_ _ | refine blk_drew ?_ | refine blk_alloc ?_ _)); exact BK109.out) Tryd.underlying86 rfl (by kernel_rfl)) rfl ?_
    exact ⟨by first | rfl | (simp [errW_none, errW_some] <;> rfl) | (simp [*, errW_none, errW_some] <;> rfl), by repeat (first | (with_reducible first | exact HB.out | apply below_alloc | apply pw_below_drewN | apply below_drew1 | refine below_set ?_ GE107.out | refine below_set ?_ GE108.out | refine below_set ?_ GE109.out) | exact HB.out)⟩
  · rw [if_neg c3] at H
    have c3b0 : (a0_1 == a1_1) = false := beq_eq_false_iff_ne.mpr c3
    have c3b1 : (a0_1 != a1_1) = true := bne_iff_ne.mpr c3
    by_cases c13 : a0_1 = 1
    · rw [if_pos c13] at H
      have c13b0 : (a0_1 == 1) = true := beq_iff_eq.mpr c13
      have c13b1 : (a0_1 != 1) = false := bne_eq_false_iff_eq.mpr c13
      clear c13
      by_cases c14 : a1_1 = 0
      · rw [if_pos c14] at H
        have c14b0 : (a1_1 == 0) = true := beq_iff_eq.mpr c14
        have c14b1 : (a1_1 != 0) = false := bne_eq_false_iff_eq.mpr c14
        clear c14
        simp only [Option.some.injEq, Prod.mk.injEq] at H
        obtain ⟨rfl, rfl, rfl⟩ := H
        go_enter Tryd.func56, Tryd.ntmps56
        go_wp2_with (first | ((with_reducible refine gate_dst (N := 2) rfl ?_); refine box_event ?hg (N := 2) ?hd (cs := #[.int .u32 a0_0, .int .i64 a0_1]) (t := 86) ?hr ?_; (case hd => rfl); (case hg => rfl); (case hr => first | (go_simp; done) | (go_simp; rfl)); intro gb107 hg w15 hbox hb; have n0_ := Aside0.mk (below_step (by repeat (first | (with_reducible first | exact HB.out | apply below_alloc | apply pw_below_drewN | apply below_drew1) | exact HB.out)) hb); have n1_ := Aside0.mk (hbox); have n2_ := Aside0.mk ((by rw [hg]; exact (below_size (by repeat (first | (with_reducible first | exact HB.out | apply below_alloc | apply pw_below_drewN | apply below_drew1) | exact HB.out))) : w.heap.size ≤ gb107)); have n3_ := Aside0.mk ((by rw [hg]; exact (below_size (by repeat (first | (with_reducible first | exact HB.out | apply below_alloc | apply pw_below_drewN | apply below_drew1) | exact HB.out))) : w.heap.size ≤ gb107)); clear HB; have HB := n0_; have BK107 := n1_; have GW107 := n2_; have GE107 := n3_; clear n0_ n1_ n2_ n3_; clear hb hbox hg) | ((with_reducible refine gate_dst (N := 3) rfl ?_); refine box_event ?hg (N := 3) ?hd (cs := #[.int .u32 a1_0, .int .i64 a1_1]) (t := 86) ?hr ?_; (case hd => rfl); (case hg => rfl); (case hr => first | (go_simp; done) | (go_simp; rfl)); intro gb108 hg w16 hbox hb; have n0_ := Aside0.mk (blk_below (g := gb107) (o := .cells #[.int .u32 a0_0, .int .i64 a0_1] 86 (0, 0)) (by (with_reducible repeat (first | refine blk_drewN ?_ _ | refine blk_drew ?_ | refine blk_alloc ?_ _)); exact BK107.out) hb); have n1_ := Aside0.mk (below_step (by repeat (first | (with_reducible first | exact HB.out | apply below_alloc | apply pw_below_drewN | apply below_drew1 | refine below_set ?_ GE107.out) | exact HB.out)) hb); have n2_ := Aside0.mk (hbox); have n3_ := Aside0.mk ((by rw [hg]; exact (below_size (by repeat (first | (with_reducible first | exact HB.out | apply below_alloc | apply pw_below_drewN | apply below_drew1 | refine below_set ?_ GE107.out) | exact HB.out))) : w.heap.size ≤ gb108)); have n4_ := Aside0.mk ((by rw [hg]; exact (below_size (by repeat (first | (with_reducible first | exact HB.out | apply below_alloc | apply pw_below_drewN | apply below_drew1 | refine below_set ?_ GE107.out) | exact HB.out))) : w.heap.size ≤ gb108)); have n5_ := Aside0.mk ((by rw [hg]; exact Nat.ne_of_lt (blk_lt (g := gb107) (o := .cells #[.int .u32 a0_0, .int .i64 a0_1] 86 (0, 0)) (by (with_reducible repeat (first | refine blk_drewN ?_ _ | refine blk_drew ?_ | refine blk_alloc ?_ _)); exact BK107.out)) : gb107 ≠ gb108)); have n6_ := Aside0.mk ((by rw [hg]; exact Nat.ne_of_gt (blk_lt (g := gb107) (o := .cells #[.int .u32 a0_0, .int .i64 a0_1] 86 (0, 0)) (by (with_reducible repeat (first | refine blk_drewN ?_ _ | refine blk_drew ?_ | refine blk_alloc ?_ _)); exact BK107.out)) : gb108 ≠ gb107)); clear BK107; clear HB; have BK107 := n0_; have HB := n1_; have BK108 := n2_; have GW108 := n3_; have GE108 := n4_; have NB107_108 := n5_; have NB108_107 := n6_; clear n0_ n1_ n2_ n3_ n4_ n5_ n6_; clear hb hbox hg) | ((with_reducible refine gate_dst (N := 4) rfl ?_); refine box_event ?hg (N := 4) ?hd (cs := #[.int .u32 0, .int .i64 0]) (t := 86) ?hr ?_; (case hd => rfl); (case hg => rfl); (case hr => first | (go_simp; done) | (go_simp; rfl)); intro gb109 hg w17 hbox hb; have n0_ := Aside0.mk (blk_below (g := gb107) (o := .cells #[.int .u32 a0_0, .int .i64 a0_1] 86 (0, 0)) (by (with_reducible repeat (first | refine blk_drewN ?_ _ | refine blk_drew ?_ | refine blk_alloc ?_ _)); exact BK107.out) hb); have n1_ := Aside0.mk (blk_below (g := gb108) (o := .cells #[.int .u32 a1_0, .int .i64 a1_1] 86 (0, 0)) (by (with_reducible repeat (first | refine blk_drewN ?_ _ | refine blk_drew ?_ | refine blk_alloc ?_ _)); exact BK108.out) hb); have n2_ := Aside0.mk (below_step (by repeat (first | (with_reducible first | exact HB.out | apply below_alloc | apply pw_below_drewN | apply below_drew1 | refine below_set ?_ GE107.out | refine below_set ?_ GE108.out) | exact HB.out)) hb); have n3_ := Aside0.mk (hbox); have n4_ := Aside0.mk ((by rw [hg]; exact (below_size (by repeat (first | (with_reducible first | exact HB.out | apply below_alloc | apply pw_below_drewN | apply below_drew1 | refine below_set ?_ GE107.out | refine below_set ?_ GE108.out) | exact HB.out))) : w.heap.size ≤ gb109)); have n5_ := Aside0.mk ((by rw [hg]; exact (below_size (by repeat (first | (with_reducible first | exact HB.out | apply below_alloc | apply pw_below_drewN | apply below_drew1 | refine below_set ?_ GE107.out | refine below_set ?_ GE108.out) | exact HB.out))) : w.heap.size ≤ gb109)); have n6_ := Aside0.mk ((by rw [hg]; exact Nat.ne_of_lt (blk_lt (g := gb107) (o := .cells #[.int .u32 a0_0, .int .i64 a0_1] 86 (0, 0)) (by (with_reducible repeat (first | refine blk_drewN ?_ _ | refine blk_drew ?_ | refine blk_alloc ?_ _)); exact BK107.out)) : gb107 ≠ gb109)); have n7_ := Aside0.mk ((by rw [hg]; exact Nat.ne_of_gt (blk_lt (g := gb107) (o := .cells #[.int .u32 a0_0, .int .i64 a0_1] 86 (0, 0)) (by (with_reducible repeat (first | refine blk_drewN ?_ _ | refine blk_drew ?_ | refine blk_alloc ?_ _)); exact BK107.out)) : gb109 ≠ gb107)); have n8_ := Aside0.mk ((by rw [hg]; exact Nat.ne_of_lt (blk_lt (g := gb108) (o := .cells #[.int .u32 a1_0, .int .i64 a1_1] 86 (0, 0)) (by (with_reducible repeat (first | refine blk_drewN ?_ _ | refine blk_drew ?_ | refine blk_alloc ?_ _)); exact BK108.out)) : gb108 ≠ gb109)); have n9_ := Aside0.mk ((by rw [hg]; exact Nat.ne_of_gt (blk_lt (g := gb108) (o := .cells #[.int .u32 a1_0, .int .i64 a1_1] 86 (0, 0)) (by (with_reducible repeat (first | refine blk_drewN ?_ _ | refine blk_drew ?_ | refine blk_alloc ?_ _)); exact BK108.out)) : gb109 ≠ gb108)); clear BK107; clear BK108; clear HB; have BK107 := n0_; have BK108 := n1_; have HB := n2_; have BK109 := n3_; have GW109 := n4_; have GE109 := n5_; have NB107_109 := n6_; have NB109_107 := n7_; have NB108_109 := n8_; have NB109_108 := n9_; clear n0_ n1_ n2_ n3_ n4_ n5_ n6_ n7_ n8_ n9_; clear hb hbox hg; have hnb18 := NB107_108.out; have hnc18 := NB108_107.out; have hnb19 := NB107_109.out; have hnc19 := NB109_107.out; have hcz20_0 : w17.cell? ⟨gb107, 0, none⟩ = some (.int .u32 a0_0) := (blk_cell BK107.out 0).trans rfl; have hcz20_1 : w17.cell? ⟨gb107, 1, none⟩ = some (.int .i64 a0_1) := (blk_cell BK107.out 1).trans rfl; have hfz20_0 := blk_frozen BK107.out 0; have hfz20_1 := blk_frozen BK107.out 1; have hnb21 := NB108_109.out; have hnc21 := NB109_108.out; have hcz22_0 : w17.cell? ⟨gb108, 0, none⟩ = some (.int .u32 a1_0) := (blk_cell BK108.out 0).trans rfl; have hcz22_1 : w17.cell? ⟨gb108, 1, none⟩ = some (.int .i64 a1_1) := (blk_cell BK108.out 1).trans rfl; have hfz22_0 := blk_frozen BK108.out 0; have hfz22_1 := blk_frozen BK108.out 1; have hcz23_0 : w17.cell? ⟨gb109, 0, none⟩ = some (.int .u32 0) := (blk_cell BK109.out 0).trans rfl; have hcz23_1 : w17.cell? ⟨gb109, 1, none⟩ = some (.int .i64 0) := (blk_cell BK109.out 1).trans rfl; have hfz23_0 := blk_frozen BK109.out 0; have hfz23_1 := blk_frozen BK109.out 1))
        refine bodyPost_ret (results_ct rfl _ _ gb109 86 #[.int .u32 ((a0_0 - a1_0) % 4294967296), .int .i64 1] (0, 0) _ rfl (by (with_reducible repeat (first | refine blk_drewN ?_ _ | refine blk_drew ?_ | refine blk_alloc ?_ _)); refine blk_put (cs := #[.int .u32 ((a0_0 - a1_0) % 4294967296), .int .i64 0]) ?_ 1 _ rfl; (with_reducible repeat (first | refine blk_drewN ?_ _ | refine blk_drew ?_ | refine blk_alloc ?_ _)); refine blk_put (cs := #[.int .u32 0, .int .i64 0]) ?_ 0 _ rfl; (with_reducible repeat (first | refine blk_drewN ?_ _ | refine blk_drew ?_ | refine blk_alloc ?_ _)); exact BK109.out) Tryd.underlying86 rfl (by kernel_rfl)) rfl ?_
        exact ⟨by first | rfl | (simp [errW_none, errW_some] <;> rfl) | (simp [*, errW_none, errW_some] <;> rfl), by repeat (first | (with_reducible first | exact HB.out | apply below_alloc | apply pw_below_drewN | apply below_drew1 | refine below_set ?_ GE107.out | refine below_set ?_ GE108.out | refine below_set ?_ GE109.out) | exact HB.out)⟩
      · rw [if_neg c14] at H
        have c14b0 : (a1_1 == 0) = false := beq_eq_false_iff_ne.mpr c14
        have c14b1 : (a1_1 != 0) = true := bne_iff_ne.mpr c14
        simp only [Option.some.injEq, Prod.mk.injEq] at H
        obtain ⟨rfl, rfl, rfl⟩ := H
        go_enter Tryd.func56, Tryd.ntmps56
        go_wp2_with (first | ((with_reducible refine gate_dst (N := 2) rfl ?_); refine box_event ?hg (N := 2) ?hd (cs := #[.int .u32 a0_0, .int .i64 a0_1]) (t := 86) ?hr ?_; (case hd => rfl); (case hg => rfl); (case hr => first | (go_simp; done) | (go_simp; rfl)); intro gb107 hg w24 hbox hb; have n0_ := Aside0.mk (below_step (by repeat (first | (with_reducible first | exact HB.out | apply below_alloc | apply pw_below_drewN | apply below_drew1) | exact HB.out)) hb); have n1_ := Aside0.mk (hbox); have n2_ := Aside0.mk ((by rw [hg]; exact (below_size (by repeat (first | (with_reducible first | exact HB.out | apply below_alloc | apply pw_below_drewN | apply below_drew1) | exact HB.out))) : w.heap.size ≤ gb107)); have n3_ := Aside0.mk ((by rw [hg]; exact (below_size (by repeat (first | (with_reducible first | exact HB.out | apply below_alloc | apply pw_below_drewN | apply below_drew1) | exact HB.out))) : w.heap.size ≤ gb107)); clear HB; have HB := n0_; have BK107 := n1_; have GW107 := n2_; have GE107 := n3_; clear n0_ n1_ n2_ n3_; clear hb hbox hg) | ((with_reducible refine gate_dst (N := 3) rfl ?_); refine box_event ?hg (N := 3) ?hd (cs := #[.int .u32 a1_0, .int .i64 a1_1]) (t := 86) ?hr ?_; (case hd => rfl); (case hg => rfl); (case hr => first | (go_simp; done) | (go_simp; rfl)); intro gb108 hg w25 hbox hb; have n0_ := Aside0.mk (blk_below (g := gb107) (o := .cells #[.int .u32 a0_0, .int .i64 a0_1] 86 (0, 0)) (by (with_reducible repeat (first | refine blk_drewN ?_ _ | refine blk_drew ?_ | refine blk_alloc ?_ _)); exact BK107.out) hb); have n1_ := Aside0.mk (below_step (by repeat (first | (with_reducible first | exact HB.out | apply below_alloc | apply pw_below_drewN | apply below_drew1 | refine below_set ?_ GE107.out) | exact HB.out)) hb); have n2_ := Aside0.mk (hbox); have n3_ := Aside0.mk ((by rw [hg]; exact (below_size (by repeat (first | (with_reducible first | exact HB.out | apply below_alloc | apply pw_below_drewN | apply below_drew1 | refine below_set ?_ GE107.out) | exact HB.out))) : w.heap.size ≤ gb108)); have n4_ := Aside0.mk ((by rw [hg]; exact (below_size (by repeat (first | (with_reducible first | exact HB.out | apply below_alloc | apply pw_below_drewN | apply below_drew1 | refine below_set ?_ GE107.out) | exact HB.out))) : w.heap.size ≤ gb108)); have n5_ := Aside0.mk ((by rw [hg]; exact Nat.ne_of_lt (blk_lt (g := gb107) (o := .cells #[.int .u32 a0_0, .int .i64 a0_1] 86 (0, 0)) (by (with_reducible repeat (first | refine blk_drewN ?_ _ | refine blk_drew ?_ | refine blk_alloc ?_ _)); exact BK107.out)) : gb107 ≠ gb108)); have n6_ := Aside0.mk ((by rw [hg]; exact Nat.ne_of_gt (blk_lt (g := gb107) (o := .cells #[.int .u32 a0_0, .int .i64 a0_1] 86 (0, 0)) (by (with_reducible repeat (first | refine blk_drewN ?_ _ | refine blk_drew ?_ | refine blk_alloc ?_ _)); exact BK107.out)) : gb108 ≠ gb107)); clear BK107; clear HB; have BK107 := n0_; have HB := n1_; have BK108 := n2_; have GW108 := n3_; have GE108 := n4_; have NB107_108 := n5_; have NB108_107 := n6_; clear n0_ n1_ n2_ n3_ n4_ n5_ n6_; clear hb hbox hg) | ((with_reducible refine gate_dst (N := 4) rfl ?_); refine box_event ?hg (N := 4) ?hd (cs := #[.int .u32 0, .int .i64 0]) (t := 86) ?hr ?_; (case hd => rfl); (case hg => rfl); (case hr => first | (go_simp; done) | (go_simp; rfl)); intro gb109 hg w26 hbox hb; have n0_ := Aside0.mk (blk_below (g := gb107) (o := .cells #[.int .u32 a0_0, .int .i64 a0_1] 86 (0, 0)) (by (with_reducible repeat (first | refine blk_drewN ?_ _ | refine blk_drew ?_ | refine blk_alloc ?_ _)); exact BK107.out) hb); have n1_ := Aside0.mk (blk_below (g := gb108) (o := .cells #[.int .u32 a1_0, .int .i64 a1_1] 86 (0, 0)) (by (with_reducible repeat (first | refine blk_drewN ?_ _ | refine blk_drew ?_ | refine blk_alloc ?_ _)); exact BK108.out) hb); have n2_ := Aside0.mk (below_step (by repeat (first | (with_reducible first | exact HB.out | apply below_alloc | apply pw_below_drewN | apply below_drew1 | refine below_set ?_ GE107.out | refine below_set ?_ GE108.out) | exact HB.out)) hb); have n3_ := Aside0.mk (hbox); have n4_ := Aside0.mk ((by rw [hg]; exact (below_size (by repeat (first | (with_reducible first | exact HB.out | apply below_alloc | apply pw_below_drewN | apply below_drew1 | refine below_set ?_ GE107.out | refine below_set ?_ GE108.out) | exact HB.out))) : w.heap.size ≤ gb109)); have n5_ := Aside0.mk ((by rw [hg]; exact (below_size (by repeat (first | (with_reducible first | exact HB.out | apply below_alloc | apply pw_below_drewN | apply below_drew1 | refine below_set ?_ GE107.out | refine below_set ?_ GE108.out) | exact HB.out))) : w.heap.size ≤ gb109)); have n6_ := Aside0.mk ((by rw [hg]; exact Nat.ne_of_lt (blk_lt (g := gb107) (o := .cells #[.int .u32 a0_0, .int .i64 a0_1] 86 (0, 0)) (by (with_reducible repeat (first | refine blk_drewN ?_ _ | refine blk_drew ?_ | refine blk_alloc ?_ _)); exact BK107.out)) : gb107 ≠ gb109)); have n7_ := Aside0.mk ((by rw [hg]; exact Nat.ne_of_gt (blk_lt (g := gb107) (o := .cells #[.int .u32 a0_0, .int .i64 a0_1] 86 (0, 0)) (by (with_reducible repeat (first | refine blk_drewN ?_ _ | refine blk_drew ?_ | refine blk_alloc ?_ _)); exact BK107.out)) : gb109 ≠ gb107)); have n8_ := Aside0.mk ((by rw [hg]; exact Nat.ne_of_lt (blk_lt (g := gb108) (o := .cells #[.int .u32 a1_0, .int .i64 a1_1] 86 (0, 0)) (by (with_reducible repeat (first | refine blk_drewN ?_ _ | refine blk_drew ?_ | refine blk_alloc ?_ _)); exact BK108.out)) : gb108 ≠ gb109)); have n9_ := Aside0.mk ((by rw [hg]; exact Nat.ne_of_gt (blk_lt (g := gb108) (o := .cells #[.int .u32 a1_0, .int .i64 a1_1] 86 (0, 0)) (by (with_reducible repeat (first | refine blk_drewN ?_ _ | refine blk_drew ?_ | refine blk_alloc ?_ _)); exact BK108.out)) : gb109 ≠ gb108)); clear BK107; clear BK108; clear HB; have BK107 := n0_; have BK108 := n1_; have HB := n2_; have BK109 := n3_; have GW109 := n4_; have GE109 := n5_; have NB107_109 := n6_; have NB109_107 := n7_; have NB108_109 := n8_; have NB109_108 := n9_; clear n0_ n1_ n2_ n3_ n4_ n5_ n6_ n7_ n8_ n9_; clear hb hbox hg; have hnb27 := NB107_108.out; have hnc27 := NB108_107.out; have hnb28 := NB107_109.out; have hnc28 := NB109_107.out; have hcz29_0 : w26.cell? ⟨gb107, 0, none⟩ = some (.int .u32 a0_0) := (blk_cell BK107.out 0).trans rfl; have hcz29_1 : w26.cell? ⟨gb107, 1, none⟩ = some (.int .i64 a0_1) := (blk_cell BK107.out 1).trans rfl; have hfz29_0 := blk_frozen BK107.out 0; have hfz29_1 := blk_frozen BK107.out 1; have hnb30 := NB108_109.out; have hnc30 := NB109_108.out; have hcz31_0 : w26.cell? ⟨gb108, 0, none⟩ = some (.int .u32 a1_0) := (blk_cell BK108.out 0).trans rfl; have hcz31_1 : w26.cell? ⟨gb108, 1, none⟩ = some (.int .i64 a1_1) := (blk_cell BK108.out 1).trans rfl; have hfz31_0 := blk_frozen BK108.out 0; have hfz31_1 := blk_frozen BK108.out 1; have hcz32_0 : w26.cell? ⟨gb109, 0, none⟩ = some (.int .u32 0) := (blk_cell BK109.out 0).trans rfl; have hcz32_1 : w26.cell? ⟨gb109, 1, none⟩ = some (.int .i64 0) := (blk_cell BK109.out 1).trans rfl; have hfz32_0 := blk_frozen BK109.out 0; have hfz32_1 := blk_frozen BK109.out 1))
        refine bodyPost_ret (results_ct rfl _ _ gb109 86 #[.int .u32 0, .int .i64 0] (0, 0) _ rfl (by (with_reducible repeat (first | refine blk_drewN ?_ _ | refine blk_drew ?_ | refine blk_alloc ?_ _)); refine blk_put (cs := #[.int .u32 0, .int .i64 0]) ?_ 1 _ rfl; (with_reducible repeat (first | refine blk_drewN ?_ _ | refine blk_drew ?_ | refine blk_alloc ?_ _)); refine blk_put (cs := #[.int .u32 0, .int .i64 0]) ?_ 0 _ rfl; (with_reducible repeat (first | refine blk_drewN ?_ _ | refine blk_drew ?_ | refine blk_alloc ?_ _)); exact BK109.out) Tryd.underlying86 rfl (by kernel_rfl)) rfl ?_
        exact ⟨by first | rfl | (simp [errW_none, errW_some] <;> rfl) | (simp [*, errW_none, errW_some] <;> rfl), by repeat (first | (with_reducible first | exact HB.out | apply below_alloc | apply pw_below_drewN | apply below_drew1 | refine below_set ?_ GE107.out | refine below_set ?_ GE108.out | refine below_set ?_ GE109.out) | exact HB.out)⟩
    · rw [if_neg c13] at H
      have c13b0 : (a0_1 == 1) = false := beq_eq_false_iff_ne.mpr c13
      have c13b1 : (a0_1 != 1) = true := bne_iff_ne.mpr c13
      simp only [Option.some.injEq, Prod.mk.injEq] at H
      obtain ⟨rfl, rfl, rfl⟩ := H
      go_enter Tryd.func56, Tryd.ntmps56
      go_wp2_with (first | ((with_reducible refine gate_dst (N := 2) rfl ?_); refine box_event ?hg (N := 2) ?hd (cs := #[.int .u32 a0_0, .int .i64 a0_1]) (t := 86) ?hr ?_; (case hd => rfl); (case hg => rfl); (case hr => first | (go_simp; done) | (go_simp; rfl)); intro gb107 hg w33 hbox hb; have n0_ := Aside0.mk (below_step (by repeat (first | (with_reducible first | exact HB.out | apply below_alloc | apply pw_below_drewN | apply below_drew1) | exact HB.out)) hb); have n1_ := Aside0.mk (hbox); have n2_ := Aside0.mk ((by rw [hg]; exact (below_size (by repeat (first | (with_reducible first | exact HB.out | apply below_alloc | apply pw_below_drewN | apply below_drew1) | exact HB.out))) : w.heap.size ≤ gb107)); have n3_ := Aside0.mk ((by rw [hg]; exact (below_size (by repeat (first | (with_reducible first | exact HB.out | apply below_alloc | apply pw_below_drewN | apply below_drew1) | exact HB.out))) : w.heap.size ≤ gb107)); clear HB; have HB := n0_; have BK107 := n1_; have GW107 := n2_; have GE107 := n3_; clear n0_ n1_ n2_ n3_; clear hb hbox hg) | ((with_reducible refine gate_dst (N := 3) rfl ?_); refine box_event ?hg (N := 3) ?hd (cs := #[.int .u32 a1_0, .int .i64 a1_1]) (t := 86) ?hr ?_; (case hd => rfl); (case hg => rfl); (case hr => first | (go_simp; done) | (go_simp; rfl)); intro gb108 hg w34 hbox hb; have n0_ := Aside0.mk (blk_below (g := gb107) (o := .cells #[.int .u32 a0_0, .int .i64 a0_1] 86 (0, 0)) (by (with_reducible repeat (first | refine blk_drewN ?_ _ | refine blk_drew ?_ | refine blk_alloc ?_ _)); exact BK107.out) hb); have n1_ := Aside0.mk (below_step (by repeat (first | (with_reducible first | exact HB.out | apply below_alloc | apply pw_below_drewN | apply below_drew1 | refine below_set ?_ GE107.out) | exact HB.out)) hb); have n2_ := Aside0.mk (hbox); have n3_ := Aside0.mk ((by rw [hg]; exact (below_size (by repeat (first | (with_reducible first | exact HB.out | apply below_alloc | apply pw_below_drewN | apply below_drew1 | refine below_set ?_ GE107.out) | exact HB.out))) : w.heap.size ≤ gb108)); have n4_ := Aside0.mk ((by rw [hg]; exact (below_size (by repeat (first | (with_reducible first | exact HB.out | apply below_alloc | apply pw_below_drewN | apply below_drew1 | refine below_set ?_ GE107.out) | exact HB.out))) : w.heap.size ≤ gb108)); have n5_ := Aside0.mk ((by rw [hg]; exact Nat.ne_of_lt (blk_lt (g := gb107) (o := .cells #[.int .u32 a0_0, .int .i64 a0_1] 86 (0, 0)) (by (with_reducible repeat (first | refine blk_drewN ?_ _ | refine blk_drew ?_ | refine blk_alloc ?_ _)); exact BK107.out)) : gb107 ≠ gb108)); have n6_ := Aside0.mk ((by rw [hg]; exact Nat.ne_of_gt (blk_lt (g := gb107) (o := .cells #[.int .u32 a0_0, .int .i64 a0_1] 86 (0, 0)) (by (with_reducible repeat (first | refine blk_drewN ?_ _ | refine blk_drew ?_ | refine blk_alloc ?_ _)); exact BK107.out)) : gb108 ≠ gb107)); clear BK107; clear HB; have BK107 := n0_; have HB := n1_; have BK108 := n2_; have GW108 := n3_; have GE108 := n4_; have NB107_108 := n5_; have NB108_107 := n6_; clear n0_ n1_ n2_ n3_ n4_ n5_ n6_; clear hb hbox hg) | ((with_reducible refine gate_dst (N := 4) rfl ?_); refine box_event ?hg (N := 4) ?hd (cs := #[.int .u32 0, .int .i64 0]) (t := 86) ?hr ?_; (case hd => rfl); (case hg => rfl); (case hr => first | (go_simp; done) | (go_simp; rfl)); intro gb109 hg w35 hbox hb; have n0_ := Aside0.mk (blk_below (g := gb107) (o := .cells #[.int .u32 a0_0, .int .i64 a0_1] 86 (0, 0)) (by (with_reducible repeat (first | refine blk_drewN ?_ _ | refine blk_drew ?_ | refine blk_alloc ?_ _)); exact BK107.out) hb); have n1_ := Aside0.mk (blk_below (g := gb108) (o := .cells #[.int .u32 a1_0, .int .i64 a1_1] 86 (0, 0)) (by (with_reducible repeat (first | refine blk_drewN ?_ _ | refine blk_drew ?_ | refine blk_alloc ?_ _)); exact BK108.out) hb); have n2_ := Aside0.mk (below_step (by repeat (first | (with_reducible first | exact HB.out | apply below_alloc | apply pw_below_drewN | apply below_drew1 | refine below_set ?_ GE107.out | refine below_set ?_ GE108.out) | exact HB.out)) hb); have n3_ := Aside0.mk (hbox); have n4_ := Aside0.mk ((by rw [hg]; exact (below_size (by repeat (first | (with_reducible first | exact HB.out | apply below_alloc | apply pw_below_drewN | apply below_drew1 | refine below_set ?_ GE107.out | refine below_set ?_ GE108.out) | exact HB.out))) : w.heap.size ≤ gb109)); have n5_ := Aside0.mk ((by rw [hg]; exact (below_size (by repeat (first | (with_reducible first | exact HB.out | apply below_alloc | apply pw_below_drewN | apply below_drew1 | refine below_set ?_ GE107.out | refine below_set ?_ GE108.out) | exact HB.out))) : w.heap.size ≤ gb109)); have n6_ := Aside0.mk ((by rw [hg]; exact Nat.ne_of_lt (blk_lt (g := gb107) (o := .cells #[.int .u32 a0_0, .int .i64 a0_1] 86 (0, 0)) (by (with_reducible repeat (first | refine blk_drewN ?_ _ | refine blk_drew ?_ | refine blk_alloc ?_ _)); exact BK107.out)) : gb107 ≠ gb109)); have n7_ := Aside0.mk ((by rw [hg]; exact Nat.ne_of_gt (blk_lt (g := gb107) (o := .cells #[.int .u32 a0_0, .int .i64 a0_1] 86 (0, 0)) (by (with_reducible repeat (first | refine blk_drewN ?_ _ | refine blk_drew ?_ | refine blk_alloc ?_ _)); exact BK107.out)) : gb109 ≠ gb107)); have n8_ := Aside0.mk ((by rw [hg]; exact Nat.ne_of_lt (blk_lt (g := gb108) (o := .cells #[.int .u32 a1_0, .int .i64 a1_1] 86 (0, 0)) (by (with_reducible repeat (first | refine blk_drewN ?_ _ | refine blk_drew ?_ | refine blk_alloc ?_ _)); exact BK108.out)) : gb108 ≠ gb109)); have n9_ := Aside0.mk ((by rw [hg]; exact Nat.ne_of_gt (blk_lt (g := gb108) (o := .cells #[.int .u32 a1_0, .int .i64 a1_1] 86 (0, 0)) (by (with_reducible repeat (first | refine blk_drewN ?_ _ | refine blk_drew ?_ | refine blk_alloc ?_ _)); exact BK108.out)) : gb109 ≠ gb108)); clear BK107; clear BK108; clear HB; have BK107 := n0_; have BK108 := n1_; have HB := n2_; have BK109 := n3_; have GW109 := n4_; have GE109 := n5_; have NB107_109 := n6_; have NB109_107 := n7_; have NB108_109 := n8_; have NB109_108 := n9_; clear n0_ n1_ n2_ n3_ n4_ n5_ n6_ n7_ n8_ n9_; clear hb hbox hg; have hnb36 := NB107_108.out; have hnc36 := NB108_107.out; have hnb37 := NB107_109.out; have hnc37 := NB109_107.out; have hcz38_0 : w35.cell? ⟨gb107, 0, none⟩ = some (.int .u32 a0_0) := (blk_cell BK107.out 0).trans rfl; have hcz38_1 : w35.cell? ⟨gb107, 1, none⟩ = some (.int .i64 a0_1) := (blk_cell BK107.out 1).trans rfl; have hfz38_0 := blk_frozen BK107.out 0; have hfz38_1 := blk_frozen BK107.out 1; have hnb39 := NB108_109.out; have hnc39 := NB109_108.out; have hcz40_0 : w35.cell? ⟨gb108, 0, none⟩ = some (.int .u32 a1_0) := (blk_cell BK108.out 0).trans rfl; have hcz40_1 : w35.cell? ⟨gb108, 1, none⟩ = some (.int .i64 a1_1) := (blk_cell BK108.out 1).trans rfl; have hfz40_0 := blk_frozen BK108.out 0; have hfz40_1 := blk_frozen BK108.out 1; have hcz41_0 : w35.cell? ⟨gb109, 0, none⟩ = some (.int .u32 0) := (blk_cell BK109.out 0).trans rfl; have hcz41_1 : w35.cell? ⟨gb109, 1, none⟩ = some (.int .i64 0) := (blk_cell BK109.out 1).trans rfl; have hfz41_0 := blk_frozen BK109.out 0; have hfz41_1 := blk_frozen BK109.out 1))
      refine bodyPost_ret (results_ct rfl _ _ gb109 86 #[.int .u32 0, .int .i64 0] (0, 0) _ rfl (by (with_reducible repeat (first | refine blk_drewN ?_ _ | refine blk_drew ?_ | refine blk_alloc ?_ _)); refine blk_put (cs := #[.int .u32 0, .int .i64 0]) ?_ 1 _ rfl; (with_reducible repeat (first | refine blk_drewN ?_ _ | refine blk_drew ?_ | refine blk_alloc ?_ _)); refine blk_put (cs := #[.int .u32 0, .int .i64 0]) ?_ 0 _ rfl; (with_reducible repeat (first | refine blk_drewN ?_ _ | refine blk_drew ?_ | refine blk_alloc ?_ _)); exact BK109.out) Tryd.underlying86 rfl (by kernel_rfl)) rfl ?_
      exact ⟨by first | rfl | (simp [errW_none, errW_some] <;> rfl) | (simp [*, errW_none, errW_some] <;> rfl), by repeat (first | (with_reducible first | exact HB.out | apply below_alloc | apply pw_below_drewN | apply below_drew1 | refine below_set ?_ GE107.out | refine below_set ?_ GE108.out | refine below_set ?_ GE109.out) | exact HB.out)⟩

/-! ### eval_reckoned: function 57 -/
def eval_reckoned.f (a0 : Int) (a1 : Int) (a2 : Int) : Option (Int) := if a0 = 11 then (some ((a1 * a2) % 4294967296)) else (if a0 = 12 then (if a2 = 0 then (none) else (some ((Int.tdiv a1 a2) % 4294967296))) else (if a0 = 13 then (if 0 ≤ a2 then (some (shl .u32 a1 a2)) else (none)) else (if a0 = 14 then (if 0 ≤ a2 then (some (shr .u32 a1 a2)) else (none)) else (if a0 = 15 then (some (Go.bits .and .u32 a1 a2)) else (if a0 = 16 then (some (Go.bits .xor .u32 a1 a2)) else (some (Go.bits .or .u32 a1 a2)))))))
set_option maxHeartbeats 8000000 in
set_option maxRecDepth 100000 in
theorem eval_reckoned.calls (a0 : Int) (a1 : Int) (a2 : Int) (r : Int) (w : World) (h : eval_reckoned.f a0 a1 a2 = some r) :
    Calls Tryd.prog 57 #[.int .i64 a0, .int .u32 a1, .int .u32 a2] w fun e w' => e = .returned (.int .u32 r) ∧ Drawn0 w w' := by
  have H : (if a0 = 11 then (some ((a1 * a2) % 4294967296)) else (if a0 = 12 then (if a2 = 0 then (none) else (some ((Int.tdiv a1 a2) % 4294967296))) else (if a0 = 13 then (if 0 ≤ a2 then (some (shl .u32 a1 a2)) else (none)) else (if a0 = 14 then (if 0 ≤ a2 then (some (shr .u32 a1 a2)) else (none)) else (if a0 = 15 then (some (Go.bits .and .u32 a1 a2)) else (if a0 = 16 then (some (Go.bits .xor .u32 a1 a2)) else (some (Go.bits .or .u32 a1 a2)))))))) = some r := h
  clear h
  by_cases c4 : a0 = 11
  · rw [if_pos c4] at H
    have c4b0 : (a0 == 11) = true := beq_iff_eq.mpr c4
    have c4b1 : (a0 != 11) = false := bne_eq_false_iff_eq.mpr c4
    clear c4
    obtain rfl := Option.some.inj H
    go_enter Tryd.func57, Tryd.ntmps57
    go_wp2
    go_ret
    exact ⟨by first | rfl | (simp; done) | (simp [*]; done), by repeat (first | exact Drawn0.refl _ | apply Drawn0.step)⟩
  · rw [if_neg c4] at H
    have c4b0 : (a0 == 11) = false := beq_eq_false_iff_ne.mpr c4
    have c4b1 : (a0 != 11) = true := bne_iff_ne.mpr c4
    by_cases c5 : a0 = 12
    · rw [if_pos c5] at H
      have c5b0 : (a0 == 12) = true := beq_iff_eq.mpr c5
      have c5b1 : (a0 != 12) = false := bne_eq_false_iff_eq.mpr c5
      clear c5
      by_cases c6 : a2 = 0
      · rw [if_pos c6] at H
        exact absurd H (by simp)
      · rw [if_neg c6] at H
        have c6b0 : (a2 == 0) = false := beq_eq_false_iff_ne.mpr c6
        have c6b1 : (a2 != 0) = true := bne_iff_ne.mpr c6
        obtain rfl := Option.some.inj H
        go_enter Tryd.func57, Tryd.ntmps57
        go_wp2
        go_ret
        exact ⟨by first | rfl | (simp; done) | (simp [*]; done), by repeat (first | exact Drawn0.refl _ | apply Drawn0.step)⟩
    · rw [if_neg c5] at H
      have c5b0 : (a0 == 12) = false := beq_eq_false_iff_ne.mpr c5
      have c5b1 : (a0 != 12) = true := bne_iff_ne.mpr c5
      by_cases c7 : a0 = 13
      · rw [if_pos c7] at H
        have c7b0 : (a0 == 13) = true := beq_iff_eq.mpr c7
        have c7b1 : (a0 != 13) = false := bne_eq_false_iff_eq.mpr c7
        clear c7
        by_cases c8 : 0 ≤ a2
        · rw [if_pos c8] at H
          have c8b0 := eq_true c8
          have c8b1 : decide (0 ≤ a2) = true := decide_eq_true c8
          clear c8
          obtain ⟨ji9, hji9⟩ : ∃ j_ : Int, (shl .u32 a1 a2) = j_ := ⟨_, rfl⟩
          replace H : (some ji9) = some r := by first | (rw [hji9] at H; exact H) | (simp only [hji9] at H ⊢; exact H)
          have hji9_ : (IntKind.u32.wrap (a1 * 2 ^ min a2.toNat 32)) = ji9 := hji9
          have hji9z : a2 ≤ 32 → (IntKind.u32.wrap (a1 * 2 ^ a2.toNat)) = ji9 := shl_small hji9
          obtain rfl := Option.some.inj H
          go_enter Tryd.func57, Tryd.ntmps57
          go_wp2
          go_ret
          exact ⟨by first | rfl | (simp; done) | (simp only [← hji9] <;> (first | rfl | simp)) | (simp [*]; done), by repeat (first | exact Drawn0.refl _ | apply Drawn0.step)⟩
        · rw [if_neg c8] at H
          exact absurd H (by simp)
      · rw [if_neg c7] at H
        have c7b0 : (a0 == 13) = false := beq_eq_false_iff_ne.mpr c7
        have c7b1 : (a0 != 13) = true := bne_iff_ne.mpr c7
        by_cases c10 : a0 = 14
        · rw [if_pos c10] at H
          have c10b0 : (a0 == 14) = true := beq_iff_eq.mpr c10
          have c10b1 : (a0 != 14) = false := bne_eq_false_iff_eq.mpr c10
          clear c10
          by_cases c11 : 0 ≤ a2
          · rw [if_pos c11] at H
            have c11b0 := eq_true c11
            have c11b1 : decide (0 ≤ a2) = true := decide_eq_true c11
            clear c11
            obtain ⟨ji12, hji12⟩ : ∃ j_ : Int, (shr .u32 a1 a2) = j_ := ⟨_, rfl⟩
            replace H : (some ji12) = some r := by first | (rw [hji12] at H; exact H) | (simp only [hji12] at H ⊢; exact H)
            have hji12_ : (a1 / 2 ^ min a2.toNat 32) = ji12 := hji12
            have hji12z : a2 ≤ 32 → (a1 / 2 ^ a2.toNat) = ji12 := shr_small hji12
            obtain rfl := Option.some.inj H
            go_enter Tryd.func57, Tryd.ntmps57
            go_wp2
            go_ret
            exact ⟨by first | rfl | (simp; done) | (simp only [← hji12] <;> (first | rfl | simp)) | (simp [*]; done), by repeat (first | exact Drawn0.refl _ | apply Drawn0.step)⟩
          · rw [if_neg c11] at H
            exact absurd H (by simp)
        · rw [if_neg c10] at H
          have c10b0 : (a0 == 14) = false := beq_eq_false_iff_ne.mpr c10
          have c10b1 : (a0 != 14) = true := bne_iff_ne.mpr c10
          by_cases c13 : a0 = 15
          · rw [if_pos c13] at H
            have c13b0 : (a0 == 15) = true := beq_iff_eq.mpr c13
            have c13b1 : (a0 != 15) = false := bne_eq_false_iff_eq.mpr c13
            clear c13
            obtain rfl := Option.some.inj H
            go_enter Tryd.func57, Tryd.ntmps57
            go_wp2
            go_ret
            exact ⟨by first | rfl | (simp; done) | (simp [*]; done), by repeat (first | exact Drawn0.refl _ | apply Drawn0.step)⟩
          · rw [if_neg c13] at H
            have c13b0 : (a0 == 15) = false := beq_eq_false_iff_ne.mpr c13
            have c13b1 : (a0 != 15) = true := bne_iff_ne.mpr c13
            by_cases c14 : a0 = 16
            · rw [if_pos c14] at H
              have c14b0 : (a0 == 16) = true := beq_iff_eq.mpr c14
              have c14b1 : (a0 != 16) = false := bne_eq_false_iff_eq.mpr c14
              clear c14
              obtain rfl := Option.some.inj H
              go_enter Tryd.func57, Tryd.ntmps57
              go_wp2
              go_ret
              exact ⟨by first | rfl | (simp; done) | (simp [*]; done), by repeat (first | exact Drawn0.refl _ | apply Drawn0.step)⟩
            · rw [if_neg c14] at H
              have c14b0 : (a0 == 16) = false := beq_eq_false_iff_ne.mpr c14
              have c14b1 : (a0 != 16) = true := bne_iff_ne.mpr c14
              obtain rfl := Option.some.inj H
              go_enter Tryd.func57, Tryd.ntmps57
              go_wp2
              go_ret
              exact ⟨by first | rfl | (simp; done) | (simp [*]; done), by repeat (first | exact Drawn0.refl _ | apply Drawn0.step)⟩

/-! ### eval_joined: function 38 -/
mutual
def eval_joined.j0 : Nat → Int → Bool → Int → Int → Int → Int → Option (Int × Int × Int)
  | 0, _, _, _, _, _, _ => none
  | k + 1, x0, x8, x111000, x111001, x112000, x112001 => if x0 = 9 then ((eval_sum.f k x111000 x111001 x112000 x112001).bind fun bt113 => (some (bt113.1, bt113.2.1, bt113.2.2))) else (if x0 = 10 then ((eval_difference.f x111000 x111001 x112000 x112001).bind fun bt116 => (some (bt116.1, bt116.2.1, bt116.2.2))) else (if x0 = 12 then (if x8 = true then (eval_joined.j1 k x0 x8 (x112000 == 0) x111000 x111001 x112000 x112001) else (eval_joined.j1 k x0 x8 false x111000 x111001 x112000 x112001)) else (if x8 = true then ((eval_reckoned.f x0 x111000 x112000).bind fun t119 => (some (t119, 0, 0))) else (some (0, 0, 7)))))
def eval_joined.j1 : Nat → Int → Bool → Bool → Int → Int → Int → Int → Option (Int × Int × Int)
  | 0, _, _, _, _, _, _, _ => none
  | k + 1, x0, x8, x39, x111000, x111001, x112000, x112001 => if x39 = true then (some (0, 0, 12)) else (if x8 = true then ((eval_reckoned.f x0 x111000 x112000).bind fun t120 => (some (t120, 0, 0))) else (some (0, 0, 7)))
end
def eval_joined.f (k : Nat) (a0 : Int) (a1_0 : Int) (a1_1 : Int) (a2_0 : Int) (a2_1 : Int) : Option (Int × Int × Int) := if a1_1 = 0 then (eval_joined.j0 k a0 (a2_1 == 0) a1_0 a1_1 a2_0 a2_1) else (eval_joined.j0 k a0 false a1_0 a1_1 a2_0 a2_1)
theorem eval_joined.mono_l : ∀ k, (∀ y0 y1 y2 y3 y4 y5, LeO (eval_joined.j0 k y0 y1 y2 y3 y4 y5) (eval_joined.j0 (k + 1) y0 y1 y2 y3 y4 y5)) ∧ (∀ y0 y1 y2 y3 y4 y5 y6, LeO (eval_joined.j1 k y0 y1 y2 y3 y4 y5 y6) (eval_joined.j1 (k + 1) y0 y1 y2 y3 y4 y5 y6))
  | 0 => ⟨fun _ _ _ _ _ _ r h => by simp [eval_joined.j0] at h, fun _ _ _ _ _ _ _ r h => by simp [eval_joined.j1] at h⟩
  | k + 1 => by
    obtain ⟨ih0, ih1⟩ := eval_joined.mono_l k
    refine ⟨?_, ?_⟩
    · intro y0 y1 y2 y3 y4 y5
      unfold eval_joined.j0
      repeat' first
      | (with_reducible exact ih0 _ _ _ _ _ _)
      | (with_reducible exact ih1 _ _ _ _ _ _ _)
      | (with_reducible exact eval_sum.mono _ _ _ _ _)
      | (with_reducible exact LeO.refl _)
      | (with_reducible exact LeO.none _)
      | (with_reducible refine LeO.ite ?_ ?_)
      | (with_reducible refine LeO.bind ?_ (fun _ => ?_))
      | exact ih0 _ _ _ _ _ _
      | exact ih1 _ _ _ _ _ _ _
      | exact eval_sum.mono _ _ _ _ _
      | exact LeO.none _
      | refine LeO.ite ?_ ?_
      | refine LeO.bind ?_ (fun _ => ?_)
    · intro y0 y1 y2 y3 y4 y5 y6
      unfold eval_joined.j1
      repeat' first
      | (with_reducible exact ih0 _ _ _ _ _ _)
      | (with_reducible exact ih1 _ _ _ _ _ _ _)
      | (with_reducible exact eval_sum.mono _ _ _ _ _)
      | (with_reducible exact LeO.refl _)
      | (with_reducible exact LeO.none _)
      | (with_reducible refine LeO.ite ?_ ?_)
      | (with_reducible refine LeO.bind ?_ (fun _ => ?_))
      | exact ih0 _ _ _ _ _ _
      | exact ih1 _ _ _ _ _ _ _
      | exact eval_sum.mono _ _ _ _ _
      | exact LeO.none _
      | refine LeO.ite ?_ ?_
      | refine LeO.bind ?_ (fun _ => ?_)
theorem eval_joined.mono : ∀ a0 a1 a2 a3 a4 k, LeO (eval_joined.f k a0 a1 a2 a3 a4) (eval_joined.f (k + 1) a0 a1 a2 a3 a4) := by
  intro a0 a1 a2 a3 a4 k
  obtain ⟨ih0, ih1⟩ := eval_joined.mono_l k
  unfold eval_joined.f
  repeat' first
      | (with_reducible exact ih0 _ _ _ _ _ _)
      | (with_reducible exact ih1 _ _ _ _ _ _ _)
      | (with_reducible exact eval_sum.mono _ _ _ _ _)
      | (with_reducible exact LeO.refl _)
      | (with_reducible exact LeO.none _)
      | (with_reducible refine LeO.ite ?_ ?_)
      | (with_reducible refine LeO.bind ?_ (fun _ => ?_))
      | exact ih0 _ _ _ _ _ _
      | exact ih1 _ _ _ _ _ _ _
      | exact eval_sum.mono _ _ _ _ _
      | exact LeO.none _
      | refine LeO.ite ?_ ?_
      | refine LeO.bind ?_ (fun _ => ?_)
set_option maxHeartbeats 8000000 in
set_option maxRecDepth 100000 in
theorem eval_joined.calls (k : Nat) (a0 : Int) (a1_0 : Int) (a1_1 : Int) (a2_0 : Int) (a2_1 : Int) (r1 : Int) (r2 : Int) (r3 : Int) (w : World) (h : eval_joined.f k a0 a1_0 a1_1 a2_0 a2_1 = some (r1, r2, r3)) :
    Calls Tryd.prog 38 #[.int .i64 a0, .agg #[.int .u32 a1_0, .int .i64 a1_1], .agg #[.int .u32 a2_0, .int .i64 a2_1]] w fun e w' => e = .returned (.tuple #[.agg #[.int .u32 r1, .int .i64 r2], .int .i64 r3]) ∧ Below w.heap.size w w' := by
  have hu86 := Tryd.underlying86
  have HB := Aside0.mk (Below.refl w.heap.size w)
  have H : (if a1_1 = 0 then (eval_joined.j0 k a0 (a2_1 == 0) a1_0 a1_1 a2_0 a2_1) else (eval_joined.j0 k a0 false a1_0 a1_1 a2_0 a2_1)) = some (r1, r2, r3) := h
  clear h
  have HC4 := Aside0.mk H
  clear H
  go_enter Tryd.func38, Tryd.ntmps38
  go_upto_region 1 with (first | ((with_reducible refine gate_dst (N := 4) rfl ?_); refine box_event ?hg (N := 4) ?hd (cs := #[.int .u32 a1_0, .int .i64 a1_1]) (t := 86) ?hr ?_; (case hd => rfl); (case hg => rfl); (case hr => first | (go_simp; done) | (go_simp; rfl)); intro gb110 hg w5 hbox hb; have n0_ := Aside0.mk (below_step (by repeat (first | (with_reducible first | exact HB.out | apply below_alloc | apply pw_below_drewN | apply below_drew1) | exact HB.out)) hb); have n1_ := Aside0.mk (hbox); have n2_ := Aside0.mk ((by rw [hg]; exact (below_size (by repeat (first | (with_reducible first | exact HB.out | apply below_alloc | apply pw_below_drewN | apply below_drew1) | exact HB.out))) : w.heap.size ≤ gb110)); have n3_ := Aside0.mk ((by rw [hg]; exact (below_size (by repeat (first | (with_reducible first | exact HB.out | apply below_alloc | apply pw_below_drewN | apply below_drew1) | exact HB.out))) : w.heap.size ≤ gb110)); clear HB; have HB := n0_; have BK110 := n1_; have GW110 := n2_; have GE110 := n3_; clear n0_ n1_ n2_ n3_; clear hb hbox hg) | ((with_reducible refine gate_dst (N := 5) rfl ?_); refine box_event ?hg (N := 5) ?hd (cs := #[.int .u32 a2_0, .int .i64 a2_1]) (t := 86) ?hr ?_; (case hd => rfl); (case hg => rfl); (case hr => first | (go_simp; done) | (go_simp; rfl)); intro gb111 hg w6 hbox hb; have n0_ := Aside0.mk (blk_below (g := gb110) (o := .cells #[.int .u32 a1_0, .int .i64 a1_1] 86 (0, 0)) (by (with_reducible repeat (first | refine blk_drewN ?_ _ | refine blk_drew ?_ | refine blk_alloc ?_ _)); exact BK110.out) hb); have n1_ := Aside0.mk (below_step (by repeat (first | (with_reducible first | exact HB.out | apply below_alloc | apply pw_below_drewN | apply below_drew1 | refine below_set ?_ GE110.out) | exact HB.out)) hb); have n2_ := Aside0.mk (hbox); have n3_ := Aside0.mk ((by rw [hg]; exact (below_size (by repeat (first | (with_reducible first | exact HB.out | apply below_alloc | apply pw_below_drewN | apply below_drew1 | refine below_set ?_ GE110.out) | exact HB.out))) : w.heap.size ≤ gb111)); have n4_ := Aside0.mk ((by rw [hg]; exact (below_size (by repeat (first | (with_reducible first | exact HB.out | apply below_alloc | apply pw_below_drewN | apply below_drew1 | refine below_set ?_ GE110.out) | exact HB.out))) : w.heap.size ≤ gb111)); have n5_ := Aside0.mk ((by rw [hg]; exact Nat.ne_of_lt (blk_lt (g := gb110) (o := .cells #[.int .u32 a1_0, .int .i64 a1_1] 86 (0, 0)) (by (with_reducible repeat (first | refine blk_drewN ?_ _ | refine blk_drew ?_ | refine blk_alloc ?_ _)); exact BK110.out)) : gb110 ≠ gb111)); have n6_ := Aside0.mk ((by rw [hg]; exact Nat.ne_of_gt (blk_lt (g := gb110) (o := .cells #[.int .u32 a1_0, .int .i64 a1_1] 86 (0, 0)) (by (with_reducible repeat (first | refine blk_drewN ?_ _ | refine blk_drew ?_ | refine blk_alloc ?_ _)); exact BK110.out)) : gb111 ≠ gb110)); clear BK110; clear HB; have BK110 := n0_; have HB := n1_; have BK111 := n2_; have GW111 := n3_; have GE111 := n4_; have NB110_111 := n5_; have NB111_110 := n6_; clear n0_ n1_ n2_ n3_ n4_ n5_ n6_; clear hb hbox hg) | ((with_reducible refine gate_dst (N := 6) rfl ?_); refine box_event ?hg (N := 6) ?hd (cs := #[.int .u32 0, .int .i64 0]) (t := 86) ?hr ?_; (case hd => rfl); (case hg => rfl); (case hr => first | (go_simp; done) | (go_simp; rfl)); intro gb112 hg w7 hbox hb; have n0_ := Aside0.mk (blk_below (g := gb110) (o := .cells #[.int .u32 a1_0, .int .i64 a1_1] 86 (0, 0)) (by (with_reducible repeat (first | refine blk_drewN ?_ _ | refine blk_drew ?_ | refine blk_alloc ?_ _)); exact BK110.out) hb); have n1_ := Aside0.mk (blk_below (g := gb111) (o := .cells #[.int .u32 a2_0, .int .i64 a2_1] 86 (0, 0)) (by (with_reducible repeat (first | refine blk_drewN ?_ _ | refine blk_drew ?_ | refine blk_alloc ?_ _)); exact BK111.out) hb); have n2_ := Aside0.mk (below_step (by repeat (first | (with_reducible first | exact HB.out | apply below_alloc | apply pw_below_drewN | apply below_drew1 | refine below_set ?_ GE110.out | refine below_set ?_ GE111.out) | exact HB.out)) hb); have n3_ := Aside0.mk (hbox); have n4_ := Aside0.mk ((by rw [hg]; exact (below_size (by repeat (first | (with_reducible first | exact HB.out | apply below_alloc | apply pw_below_drewN | apply below_drew1 | refine below_set ?_ GE110.out | refine below_set ?_ GE111.out) | exact HB.out))) : w.heap.size ≤ gb112)); have n5_ := Aside0.mk ((by rw [hg]; exact (below_size (by repeat (first | (with_reducible first | exact HB.out | apply below_alloc | apply pw_below_drewN | apply below_drew1 | refine below_set ?_ GE110.out | refine below_set ?_ GE111.out) | exact HB.out))) : w.heap.size ≤ gb112)); have n6_ := Aside0.mk ((by rw [hg]; exact Nat.ne_of_lt (blk_lt (g := gb110) (o := .cells #[.int .u32 a1_0, .int .i64 a1_1] 86 (0, 0)) (by (with_reducible repeat (first | refine blk_drewN ?_ _ | refine blk_drew ?_ | refine blk_alloc ?_ _)); exact BK110.out)) : gb110 ≠ gb112)); have n7_ := Aside0.mk ((by rw [hg]; exact Nat.ne_of_gt (blk_lt (g := gb110) (o := .cells #[.int .u32 a1_0, .int .i64 a1_1] 86 (0, 0)) (by (with_reducible repeat (first | refine blk_drewN ?_ _ | refine blk_drew ?_ | refine blk_alloc ?_ _)); exact BK110.out)) : gb112 ≠ gb110)); have n8_ := Aside0.mk ((by rw [hg]; exact Nat.ne_of_lt (blk_lt (g := gb111) (o := .cells #[.int .u32 a2_0, .int .i64 a2_1] 86 (0, 0)) (by (with_reducible repeat (first | refine blk_drewN ?_ _ | refine blk_drew ?_ | refine blk_alloc ?_ _)); exact BK111.out)) : gb111 ≠ gb112)); have n9_ := Aside0.mk ((by rw [hg]; exact Nat.ne_of_gt (blk_lt (g := gb111) (o := .cells #[.int .u32 a2_0, .int .i64 a2_1] 86 (0, 0)) (by (with_reducible repeat (first | refine blk_drewN ?_ _ | refine blk_drew ?_ | refine blk_alloc ?_ _)); exact BK111.out)) : gb112 ≠ gb111)); clear BK110; clear BK111; clear HB; have BK110 := n0_; have BK111 := n1_; have HB := n2_; have BK112 := n3_; have GW112 := n4_; have GE112 := n5_; have NB110_112 := n6_; have NB112_110 := n7_; have NB111_112 := n8_; have NB112_111 := n9_; clear n0_ n1_ n2_ n3_ n4_ n5_ n6_ n7_ n8_ n9_; clear hb hbox hg))
  (try simp only [Act.put, List.setIfInBounds_toArray, List.set_cons_zero, List.set_cons_succ])
  go_cut [8] (fun v8 wc => ∃ (kq : Nat) (x8_3 : Bool), v8 = .bool x8_3 ∧ Aside0 (eval_joined.j0 kq a0 x8_3 a1_0 a1_1 a2_0 a2_1 = some (r1, r2, r3)) ∧ Aside0 (kq ≤ k) ∧ Aside0 (wc.heap[gb110]? = some (.cells #[.int .u32 a1_0, .int .i64 a1_1] 86 (0, 0))) ∧ Aside0 (wc.heap[gb111]? = some (.cells #[.int .u32 a2_0, .int .i64 a2_1] 86 (0, 0))) ∧ Aside0 (wc.heap[gb112]? = some (.cells #[.int .u32 0, .int .i64 0] 86 (0, 0))) ∧ Aside0 (Below w.heap.size w wc))
  case first =>
    have H := HC4.out
    clear HC4
    by_cases c8 : a1_1 = 0
    · rw [if_pos c8] at H
      have c8b0 : (a1_1 == 0) = true := beq_iff_eq.mpr c8
      have c8b1 : (a1_1 != 0) = false := bne_eq_false_iff_eq.mpr c8
      clear c8
      (first | rw [c8b0] | (simp only [i64_w, i32_w]; rw [c8b0]) | skip)
      have H' := Aside0.mk H
      clear H
      have hnb9 := NB110_111.out
      have hnc9 := NB111_110.out
      have hnb10 := NB110_112.out
      have hnc10 := NB112_110.out
      have hcz11_0 : w7.cell? ⟨gb110, 0, none⟩ = some (.int .u32 a1_0) := (blk_cell BK110.out 0).trans rfl
      have hcz11_1 : w7.cell? ⟨gb110, 1, none⟩ = some (.int .i64 a1_1) := (blk_cell BK110.out 1).trans rfl
      have hfz11_0 := blk_frozen BK110.out 0
      have hfz11_1 := blk_frozen BK110.out 1
      have hnb12 := NB111_112.out
      have hnc12 := NB112_111.out
      have hcz13_0 : w7.cell? ⟨gb111, 0, none⟩ = some (.int .u32 a2_0) := (blk_cell BK111.out 0).trans rfl
      have hcz13_1 : w7.cell? ⟨gb111, 1, none⟩ = some (.int .i64 a2_1) := (blk_cell BK111.out 1).trans rfl
      have hfz13_0 := blk_frozen BK111.out 0
      have hfz13_1 := blk_frozen BK111.out 1
      go_wp2
      go_meet
      case rel => exact ⟨_, ((a2_1 == 0)), (by first | rfl | (simp; done) | (simp [*]; done)), H', ⟨by first | omega | exact Nat.le_refl _⟩, ⟨by (with_reducible repeat (first | refine blk_drewN ?_ _ | refine blk_drew ?_ | refine blk_alloc ?_ _)); exact BK110.out⟩, ⟨by (with_reducible repeat (first | refine blk_drewN ?_ _ | refine blk_drew ?_ | refine blk_alloc ?_ _)); exact BK111.out⟩, ⟨by (with_reducible repeat (first | refine blk_drewN ?_ _ | refine blk_drew ?_ | refine blk_alloc ?_ _)); exact BK112.out⟩, ⟨by repeat (first | (with_reducible first | exact HB.out | apply below_alloc | apply pw_below_drewN | apply below_drew1 | refine below_set ?_ GE110.out | refine below_set ?_ GE111.out | refine below_set ?_ GE112.out) | exact HB.out)⟩⟩
    · rw [if_neg c8] at H
      have c8b0 : (a1_1 == 0) = false := beq_eq_false_iff_ne.mpr c8
      have c8b1 : (a1_1 != 0) = true := bne_iff_ne.mpr c8
      (first | rw [c8b0] | (simp only [i64_w, i32_w]; rw [c8b0]) | skip)
      have H' := Aside0.mk H
      clear H
      have hnb14 := NB110_111.out
      have hnc14 := NB111_110.out
      have hnb15 := NB110_112.out
      have hnc15 := NB112_110.out
      have hcz16_0 : w7.cell? ⟨gb110, 0, none⟩ = some (.int .u32 a1_0) := (blk_cell BK110.out 0).trans rfl
      have hcz16_1 : w7.cell? ⟨gb110, 1, none⟩ = some (.int .i64 a1_1) := (blk_cell BK110.out 1).trans rfl
      have hfz16_0 := blk_frozen BK110.out 0
      have hfz16_1 := blk_frozen BK110.out 1
      go_wp2
      go_meet
      case rel => exact ⟨_, (false), (by first | rfl | (simp; done) | (simp [*]; done)), H', ⟨by first | omega | exact Nat.le_refl _⟩, ⟨by (with_reducible repeat (first | refine blk_drewN ?_ _ | refine blk_drew ?_ | refine blk_alloc ?_ _)); exact BK110.out⟩, ⟨by (with_reducible repeat (first | refine blk_drewN ?_ _ | refine blk_drew ?_ | refine blk_alloc ?_ _)); exact BK111.out⟩, ⟨by (with_reducible repeat (first | refine blk_drewN ?_ _ | refine blk_drew ?_ | refine blk_alloc ?_ _)); exact BK112.out⟩, ⟨by repeat (first | (with_reducible first | exact HB.out | apply below_alloc | apply pw_below_drewN | apply below_drew1 | refine below_set ?_ GE110.out | refine below_set ?_ GE111.out | refine below_set ?_ GE112.out) | exact HB.out)⟩⟩
  case rest =>
    clear HC4
    try clear c1
    try clear p2
    try clear c3
    try clear c8
    try clear c8b0
    try clear c8b1
    try clear c9
    try clear c10
    try clear c12
    try clear c14
    try clear c15
    try clear hcz11_0 hcz11_1 hfz11_0 hfz11_1
    try clear hcz13_0 hcz13_1 hfz13_0 hfz13_1
    try clear hcz16_0 hcz16_1 hfz16_0 hfz16_1
    obtain ⟨kq, x8_3, rfl, HA, HJ3, BK110, BK111, BK112, HB⟩ := hcut
    cases kq with
    | zero => exact absurd HA.out (by simp [eval_joined.j0])
    | succ kj3 =>
      have H := HA.out
      clear HA
      simp only [eval_joined.j0] at H
      by_cases c17 : a0 = 9
      · rw [if_pos c17] at H
        have c17b0 : (a0 == 9) = true := beq_iff_eq.mpr c17
        have c17b1 : (a0 != 9) = false := bne_eq_false_iff_eq.mpr c17
        clear c17
        replace H := Option.bind_eq_some_iff.mp H
        obtain ⟨⟨t113, t114, t115⟩, A180, H⟩ := H
        replace H : (some (t113, t114, t115)) = some (r1, r2, r3) := H
        have A18 := Aside0.mk A180
        clear A180
        simp only [Option.some.injEq, Prod.mk.injEq] at H
        obtain ⟨rfl, rfl, rfl⟩ := H
        have hnb19 := NB110_111.out
        have hnc19 := NB111_110.out
        have hnb20 := NB110_112.out
        have hnc20 := NB112_110.out
        have hcz21_0 : wc.cell? ⟨gb110, 0, none⟩ = some (.int .u32 a1_0) := (blk_cell BK110.out 0).trans rfl
        have hcz21_1 : wc.cell? ⟨gb110, 1, none⟩ = some (.int .i64 a1_1) := (blk_cell BK110.out 1).trans rfl
        have hfz21_0 := blk_frozen BK110.out 0
        have hfz21_1 := blk_frozen BK110.out 1
        have hnb22 := NB111_112.out
        have hnc22 := NB112_111.out
        have hcz23_0 : wc.cell? ⟨gb111, 0, none⟩ = some (.int .u32 a2_0) := (blk_cell BK111.out 0).trans rfl
        have hcz23_1 : wc.cell? ⟨gb111, 1, none⟩ = some (.int .i64 a2_1) := (blk_cell BK111.out 1).trans rfl
        have hfz23_0 := blk_frozen BK111.out 0
        have hfz23_1 := blk_frozen BK111.out 1
        go_wp2_with (first | ((with_reducible refine gate_callee (f := 55) rfl ?_); refine goesL_ (some 26) rfl rfl Tryd.func55 (by kernel_rfl) rfl #[.agg #[.int .u32 a1_0, .int .i64 a1_1], .agg #[.int .u32 a2_0, .int .i64 a2_1]] rfl (by (try simp only [List.map_toArray, List.map_cons, List.map_nil]); first | done | rfl | (simp only [List.length_drop, List.length_take]; rfl)) ?_; (with_reducible refine (eval_sum.calls kj3 a1_0 a1_1 a2_0 a2_1 t113 t114 t115 _ A18.out).mono ?_); rintro e w24 ⟨rfl, hb⟩; refine ⟨_, rfl, ?_⟩; have n0_ := Aside0.mk (blk_below (g := gb110) (o := .cells #[.int .u32 a1_0, .int .i64 a1_1] 86 (0, 0)) (by (with_reducible repeat (first | refine blk_drewN ?_ _ | refine blk_drew ?_ | refine blk_alloc ?_ _)); exact BK110.out) hb); have n1_ := Aside0.mk (blk_below (g := gb111) (o := .cells #[.int .u32 a2_0, .int .i64 a2_1] 86 (0, 0)) (by (with_reducible repeat (first | refine blk_drewN ?_ _ | refine blk_drew ?_ | refine blk_alloc ?_ _)); exact BK111.out) hb); have n2_ := Aside0.mk (blk_below (g := gb112) (o := .cells #[.int .u32 0, .int .i64 0] 86 (0, 0)) (by (with_reducible repeat (first | refine blk_drewN ?_ _ | refine blk_drew ?_ | refine blk_alloc ?_ _)); exact BK112.out) hb); have n3_ := Aside0.mk (below_step (by repeat (first | (with_reducible first | exact HB.out | apply below_alloc | apply pw_below_drewN | apply below_drew1 | refine below_set ?_ GE110.out | refine below_set ?_ GE111.out | refine below_set ?_ GE112.out) | exact HB.out)) hb); clear BK110; clear BK111; clear BK112; clear HB; have BK110 := n0_; have BK111 := n1_; have BK112 := n2_; have HB := n3_; clear n0_ n1_ n2_ n3_; (try clear hb); (try clear hb2); (try clear hk); (try clear hi); have hcz25_0 : w24.cell? ⟨gb112, 0, none⟩ = some (.int .u32 0) := (blk_cell BK112.out 0).trans rfl; have hcz25_1 : w24.cell? ⟨gb112, 1, none⟩ = some (.int .i64 0) := (blk_cell BK112.out 1).trans rfl; have hfz25_0 := blk_frozen BK112.out 0; have hfz25_1 := blk_frozen BK112.out 1))
        refine bodyPost_ret (results_ct rfl _ _ gb112 86 #[.int .u32 t113, .int .i64 t114] (0, 0) _ rfl (by (with_reducible repeat (first | refine blk_drewN ?_ _ | refine blk_drew ?_ | refine blk_alloc ?_ _)); refine blk_put (cs := #[.int .u32 t113, .int .i64 0]) ?_ 1 _ rfl; (with_reducible repeat (first | refine blk_drewN ?_ _ | refine blk_drew ?_ | refine blk_alloc ?_ _)); refine blk_put (cs := #[.int .u32 0, .int .i64 0]) ?_ 0 _ rfl; (with_reducible repeat (first | refine blk_drewN ?_ _ | refine blk_drew ?_ | refine blk_alloc ?_ _)); exact BK112.out) Tryd.underlying86 rfl (by kernel_rfl)) rfl ?_
        exact ⟨by first | rfl | (simp [errW_none, errW_some] <;> rfl) | (simp [*, errW_none, errW_some] <;> rfl), by repeat (first | (with_reducible first | exact HB.out | apply below_alloc | apply pw_below_drewN | apply below_drew1 | refine below_set ?_ GE110.out | refine below_set ?_ GE111.out | refine below_set ?_ GE112.out) | exact HB.out)⟩
      · rw [if_neg c17] at H
        have c17b0 : (a0 == 9) = false := beq_eq_false_iff_ne.mpr c17
        have c17b1 : (a0 != 9) = true := bne_iff_ne.mpr c17
        by_cases c26 : a0 = 10
        · rw [if_pos c26] at H
          have c26b0 : (a0 == 10) = true := beq_iff_eq.mpr c26
          have c26b1 : (a0 != 10) = false := bne_eq_false_iff_eq.mpr c26
          clear c26
          replace H := Option.bind_eq_some_iff.mp H
          obtain ⟨⟨t116, t117, t118⟩, A270, H⟩ := H
          replace H : (some (t116, t117, t118)) = some (r1, r2, r3) := H
          have A27 := Aside0.mk A270
          clear A270
          simp only [Option.some.injEq, Prod.mk.injEq] at H
          obtain ⟨rfl, rfl, rfl⟩ := H
          have hnb28 := NB110_111.out
          have hnc28 := NB111_110.out
          have hnb29 := NB110_112.out
          have hnc29 := NB112_110.out
          have hcz30_0 : wc.cell? ⟨gb110, 0, none⟩ = some (.int .u32 a1_0) := (blk_cell BK110.out 0).trans rfl
          have hcz30_1 : wc.cell? ⟨gb110, 1, none⟩ = some (.int .i64 a1_1) := (blk_cell BK110.out 1).trans rfl
          have hfz30_0 := blk_frozen BK110.out 0
          have hfz30_1 := blk_frozen BK110.out 1
          have hnb31 := NB111_112.out
          have hnc31 := NB112_111.out
          have hcz32_0 : wc.cell? ⟨gb111, 0, none⟩ = some (.int .u32 a2_0) := (blk_cell BK111.out 0).trans rfl
          have hcz32_1 : wc.cell? ⟨gb111, 1, none⟩ = some (.int .i64 a2_1) := (blk_cell BK111.out 1).trans rfl
          have hfz32_0 := blk_frozen BK111.out 0
          have hfz32_1 := blk_frozen BK111.out 1
          go_wp2_with (first | ((with_reducible refine gate_callee (f := 56) rfl ?_); refine goesL_ (some 31) rfl rfl Tryd.func56 (by kernel_rfl) rfl #[.agg #[.int .u32 a1_0, .int .i64 a1_1], .agg #[.int .u32 a2_0, .int .i64 a2_1]] rfl (by (try simp only [List.map_toArray, List.map_cons, List.map_nil]); first | done | rfl | (simp only [List.length_drop, List.length_take]; rfl)) ?_; (with_reducible refine (eval_difference.calls a1_0 a1_1 a2_0 a2_1 t116 t117 t118 _ A27.out).mono ?_); rintro e w33 ⟨rfl, hb⟩; refine ⟨_, rfl, ?_⟩; have n0_ := Aside0.mk (blk_below (g := gb110) (o := .cells #[.int .u32 a1_0, .int .i64 a1_1] 86 (0, 0)) (by (with_reducible repeat (first | refine blk_drewN ?_ _ | refine blk_drew ?_ | refine blk_alloc ?_ _)); exact BK110.out) hb); have n1_ := Aside0.mk (blk_below (g := gb111) (o := .cells #[.int .u32 a2_0, .int .i64 a2_1] 86 (0, 0)) (by (with_reducible repeat (first | refine blk_drewN ?_ _ | refine blk_drew ?_ | refine blk_alloc ?_ _)); exact BK111.out) hb); have n2_ := Aside0.mk (blk_below (g := gb112) (o := .cells #[.int .u32 0, .int .i64 0] 86 (0, 0)) (by (with_reducible repeat (first | refine blk_drewN ?_ _ | refine blk_drew ?_ | refine blk_alloc ?_ _)); exact BK112.out) hb); have n3_ := Aside0.mk (below_step (by repeat (first | (with_reducible first | exact HB.out | apply below_alloc | apply pw_below_drewN | apply below_drew1 | refine below_set ?_ GE110.out | refine below_set ?_ GE111.out | refine below_set ?_ GE112.out) | exact HB.out)) hb); clear BK110; clear BK111; clear BK112; clear HB; have BK110 := n0_; have BK111 := n1_; have BK112 := n2_; have HB := n3_; clear n0_ n1_ n2_ n3_; (try clear hb); (try clear hb2); (try clear hk); (try clear hi); have hcz34_0 : w33.cell? ⟨gb112, 0, none⟩ = some (.int .u32 0) := (blk_cell BK112.out 0).trans rfl; have hcz34_1 : w33.cell? ⟨gb112, 1, none⟩ = some (.int .i64 0) := (blk_cell BK112.out 1).trans rfl; have hfz34_0 := blk_frozen BK112.out 0; have hfz34_1 := blk_frozen BK112.out 1))
          refine bodyPost_ret (results_ct rfl _ _ gb112 86 #[.int .u32 t116, .int .i64 t117] (0, 0) _ rfl (by (with_reducible repeat (first | refine blk_drewN ?_ _ | refine blk_drew ?_ | refine blk_alloc ?_ _)); refine blk_put (cs := #[.int .u32 t116, .int .i64 0]) ?_ 1 _ rfl; (with_reducible repeat (first | refine blk_drewN ?_ _ | refine blk_drew ?_ | refine blk_alloc ?_ _)); refine blk_put (cs := #[.int .u32 0, .int .i64 0]) ?_ 0 _ rfl; (with_reducible repeat (first | refine blk_drewN ?_ _ | refine blk_drew ?_ | refine blk_alloc ?_ _)); exact BK112.out) Tryd.underlying86 rfl (by kernel_rfl)) rfl ?_
          exact ⟨by first | rfl | (simp [errW_none, errW_some] <;> rfl) | (simp [*, errW_none, errW_some] <;> rfl), by repeat (first | (with_reducible first | exact HB.out | apply below_alloc | apply pw_below_drewN | apply below_drew1 | refine below_set ?_ GE110.out | refine below_set ?_ GE111.out | refine below_set ?_ GE112.out) | exact HB.out)⟩
        · rw [if_neg c26] at H
          have c26b0 : (a0 == 10) = false := beq_eq_false_iff_ne.mpr c26
          have c26b1 : (a0 != 10) = true := bne_iff_ne.mpr c26
          by_cases c35 : a0 = 12
          · rw [if_pos c35] at H
            have c35b0 : (a0 == 12) = true := beq_iff_eq.mpr c35
            have c35b1 : (a0 != 12) = false := bne_eq_false_iff_eq.mpr c35
            clear c35
            have HC36 := Aside0.mk H
            clear H
            go_upto_region 8 with (fail)
            go_cut [39] (fun v39 wc => ∃ (kq : Nat) (x39_35 : Bool), v39 = .bool x39_35 ∧ Aside0 (eval_joined.j1 kq a0 x8_3 x39_35 a1_0 a1_1 a2_0 a2_1 = some (r1, r2, r3)) ∧ Aside0 (kq ≤ kj3) ∧ Aside0 (wc.heap[gb110]? = some (.cells #[.int .u32 a1_0, .int .i64 a1_1] 86 (0, 0))) ∧ Aside0 (wc.heap[gb111]? = some (.cells #[.int .u32 a2_0, .int .i64 a2_1] 86 (0, 0))) ∧ Aside0 (wc.heap[gb112]? = some (.cells #[.int .u32 0, .int .i64 0] 86 (0, 0))) ∧ Aside0 (Below w.heap.size w wc))
            case first =>
              have H := HC36.out
              clear HC36
              by_cases c37 : x8_3 = true
              · subst c37
                have H1 : (eval_joined.j1 kj3 a0 true (a2_0 == 0) a1_0 a1_1 a2_0 a2_1) = some (r1, r2, r3) := by rw [if_pos rfl] at H; exact H
                clear H
                have H := H1
                clear H1
                have H' := Aside0.mk H
                clear H
                have hnb38 := NB111_110.out
                have hnc38 := NB110_111.out
                have hnb39 := NB111_112.out
                have hnc39 := NB112_111.out
                have hcz40_0 : wc.cell? ⟨gb111, 0, none⟩ = some (.int .u32 a2_0) := (blk_cell BK111.out 0).trans rfl
                have hcz40_1 : wc.cell? ⟨gb111, 1, none⟩ = some (.int .i64 a2_1) := (blk_cell BK111.out 1).trans rfl
                have hfz40_0 := blk_frozen BK111.out 0
                have hfz40_1 := blk_frozen BK111.out 1
                go_wp2
                go_meet
                case rel => exact ⟨_, ((a2_0 == 0)), (by first | rfl | (simp; done) | (simp [*]; done)), H', ⟨by have := HJ3.out; first | omega | exact Nat.le_refl _⟩, ⟨by (with_reducible repeat (first | refine blk_drewN ?_ _ | refine blk_drew ?_ | refine blk_alloc ?_ _)); exact BK110.out⟩, ⟨by (with_reducible repeat (first | refine blk_drewN ?_ _ | refine blk_drew ?_ | refine blk_alloc ?_ _)); exact BK111.out⟩, ⟨by (with_reducible repeat (first | refine blk_drewN ?_ _ | refine blk_drew ?_ | refine blk_alloc ?_ _)); exact BK112.out⟩, ⟨by repeat (first | (with_reducible first | exact HB.out | apply below_alloc | apply pw_below_drewN | apply below_drew1 | refine below_set ?_ GE110.out | refine below_set ?_ GE111.out | refine below_set ?_ GE112.out) | exact HB.out)⟩⟩
              · replace c37 := Bool.eq_false_iff.mpr c37
                subst c37
                have H1 : (eval_joined.j1 kj3 a0 false false a1_0 a1_1 a2_0 a2_1) = some (r1, r2, r3) := by rw [if_neg (show ¬ (false = true) by decide)] at H; exact H
                clear H
                have H := H1
                clear H1
                have H' := Aside0.mk H
                clear H
                go_wp2
                go_meet
                case rel => exact ⟨_, (false), (by first | rfl | (simp; done) | (simp [*]; done)), H', ⟨by have := HJ3.out; first | omega | exact Nat.le_refl _⟩, ⟨by (with_reducible repeat (first | refine blk_drewN ?_ _ | refine blk_drew ?_ | refine blk_alloc ?_ _)); exact BK110.out⟩, ⟨by (with_reducible repeat (first | refine blk_drewN ?_ _ | refine blk_drew ?_ | refine blk_alloc ?_ _)); exact BK111.out⟩, ⟨by (with_reducible repeat (first | refine blk_drewN ?_ _ | refine blk_drew ?_ | refine blk_alloc ?_ _)); exact BK112.out⟩, ⟨by repeat (first | (with_reducible first | exact HB.out | apply below_alloc | apply pw_below_drewN | apply below_drew1 | refine below_set ?_ GE110.out | refine below_set ?_ GE111.out | refine below_set ?_ GE112.out) | exact HB.out)⟩⟩
            case rest =>
              clear HC36
              try clear c1
              try clear c2
              try clear p2
              try clear c3
              try clear c5
              try clear c8
              try clear c8b0
              try clear c8b1
              try clear c9
              try clear c10
              try clear c12
              try clear c14
              try clear c15
              try clear c17
              try clear c17b0
              try clear c17b1
              try clear c19
              try clear c20
              try clear c22
              try clear c26
              try clear c26b0
              try clear c26b1
              try clear c28
              try clear c29
              try clear c31
              try clear c35
              try clear c35b0
              try clear c35b1
              try clear c37
              try clear c38
              try clear c39
              try clear hcz11_0 hcz11_1 hfz11_0 hfz11_1
              try clear hcz13_0 hcz13_1 hfz13_0 hfz13_1
              try clear hcz16_0 hcz16_1 hfz16_0 hfz16_1
              try clear hcz21_0 hcz21_1 hfz21_0 hfz21_1
              try clear hcz23_0 hcz23_1 hfz23_0 hfz23_1
              try clear hcz25_0 hcz25_1 hfz25_0 hfz25_1
              try clear hcz30_0 hcz30_1 hfz30_0 hfz30_1
              try clear hcz32_0 hcz32_1 hfz32_0 hfz32_1
              try clear hcz34_0 hcz34_1 hfz34_0 hfz34_1
              try clear hcz40_0 hcz40_1 hfz40_0 hfz40_1
              try clear p2
              obtain ⟨kq, x39_35, rfl, HA, HJ35, BK110, BK111, BK112, HB⟩ := hcut
              cases kq with
              | zero => exact absurd HA.out (by simp [eval_joined.j1])
              | succ kj35 =>
                have H := HA.out
                clear HA
                simp only [eval_joined.j1] at H
                by_cases c41 : x39_35 = true
                · subst c41
                  have H1 : (some (0, 0, 12)) = some (r1, r2, r3) := by rw [if_pos rfl] at H; exact H
                  clear H
                  have H := H1
                  clear H1
                  simp only [Option.some.injEq, Prod.mk.injEq] at H
                  obtain ⟨rfl, rfl, rfl⟩ := H
                  have hnb42 := NB112_110.out
                  have hnc42 := NB110_112.out
                  have hnb43 := NB112_111.out
                  have hnc43 := NB111_112.out
                  have hcz44_0 : wc.cell? ⟨gb112, 0, none⟩ = some (.int .u32 0) := (blk_cell BK112.out 0).trans rfl
                  have hcz44_1 : wc.cell? ⟨gb112, 1, none⟩ = some (.int .i64 0) := (blk_cell BK112.out 1).trans rfl
                  have hfz44_0 := blk_frozen BK112.out 0
                  have hfz44_1 := blk_frozen BK112.out 1
                  go_wp2
                  refine bodyPost_ret (results_ct rfl _ _ gb112 86 #[.int .u32 0, .int .i64 0] (0, 0) _ rfl (by (with_reducible repeat (first | refine blk_drewN ?_ _ | refine blk_drew ?_ | refine blk_alloc ?_ _)); refine blk_put (cs := #[.int .u32 0, .int .i64 0]) ?_ 1 _ rfl; (with_reducible repeat (first | refine blk_drewN ?_ _ | refine blk_drew ?_ | refine blk_alloc ?_ _)); refine blk_put (cs := #[.int .u32 0, .int .i64 0]) ?_ 0 _ rfl; (with_reducible repeat (first | refine blk_drewN ?_ _ | refine blk_drew ?_ | refine blk_alloc ?_ _)); exact BK112.out) Tryd.underlying86 rfl (by kernel_rfl)) rfl ?_
                  exact ⟨by first | rfl | (simp [errW_none, errW_some] <;> rfl) | (simp [*, errW_none, errW_some] <;> rfl), by repeat (first | (with_reducible first | exact HB.out | apply below_alloc | apply pw_below_drewN | apply below_drew1 | refine below_set ?_ GE110.out | refine below_set ?_ GE111.out | refine below_set ?_ GE112.out) | exact HB.out)⟩
                · replace c41 := Bool.eq_false_iff.mpr c41
                  subst c41
                  have H1 : (if x8_3 = true then ((eval_reckoned.f a0 a1_0 a2_0).bind fun t120 => (some (t120, 0, 0))) else (some (0, 0, 7))) = some (r1, r2, r3) := by rw [if_neg (show ¬ (false = true) by decide)] at H; exact H
                  clear H
                  have H := H1
                  clear H1
                  by_cases c45 : x8_3 = true
                  · subst c45
                    have H1 : ((eval_reckoned.f a0 a1_0 a2_0).bind fun t120 => (some (t120, 0, 0))) = some (r1, r2, r3) := by rw [if_pos rfl] at H; exact H
                    clear H
                    have H := H1
                    clear H1
                    replace H := Option.bind_eq_some_iff.mp H
                    obtain ⟨t120, A460, H⟩ := H
                    replace H : (some (t120, 0, 0)) = some (r1, r2, r3) := H
                    have A46 := Aside0.mk A460
                    clear A460
                    simp only [Option.some.injEq, Prod.mk.injEq] at H
                    obtain ⟨rfl, rfl, rfl⟩ := H
                    have hnb47 := NB110_111.out
                    have hnc47 := NB111_110.out
                    have hnb48 := NB110_112.out
                    have hnc48 := NB112_110.out
                    have hcz49_0 : wc.cell? ⟨gb110, 0, none⟩ = some (.int .u32 a1_0) := (blk_cell BK110.out 0).trans rfl
                    have hcz49_1 : wc.cell? ⟨gb110, 1, none⟩ = some (.int .i64 a1_1) := (blk_cell BK110.out 1).trans rfl
                    have hfz49_0 := blk_frozen BK110.out 0
                    have hfz49_1 := blk_frozen BK110.out 1
                    have hnb50 := NB111_112.out
                    have hnc50 := NB112_111.out
                    have hcz51_0 : wc.cell? ⟨gb111, 0, none⟩ = some (.int .u32 a2_0) := (blk_cell BK111.out 0).trans rfl
                    have hcz51_1 : wc.cell? ⟨gb111, 1, none⟩ = some (.int .i64 a2_1) := (blk_cell BK111.out 1).trans rfl
                    have hfz51_0 := blk_frozen BK111.out 0
                    have hfz51_1 := blk_frozen BK111.out 1
                    go_wp2_with (first | ((with_reducible refine gate_callee (f := 57) rfl ?_); refine goesL_ (some 49) rfl rfl Tryd.func57 (by kernel_rfl) rfl #[.int .i64 a0, .int .u32 a1_0, .int .u32 a2_0] rfl (by (try simp only [List.map_toArray, List.map_cons, List.map_nil]); first | done | rfl | (simp only [List.length_drop, List.length_take]; rfl)) ?_; (with_reducible refine (eval_reckoned.calls a0 a1_0 a2_0 t120 _ A46.out).mono ?_); rintro e w' ⟨rfl, ⟨nd, rfl⟩⟩; refine ⟨_, rfl, ?_⟩; (try (rw [drewN_self wc]; generalize hq_ : World.drewN wc _ = wc; have n0_ : Aside0 (wc.heap[gb110]? = some (.cells #[.int .u32 a1_0, .int .i64 a1_1] 86 (0, 0))) := ⟨by rw [← hq_]; exact (by (with_reducible repeat (first | refine blk_drewN ?_ _ | refine blk_drew ?_ | refine blk_alloc ?_ _)); exact BK110.out)⟩; have n1_ : Aside0 (wc.heap[gb111]? = some (.cells #[.int .u32 a2_0, .int .i64 a2_1] 86 (0, 0))) := ⟨by rw [← hq_]; exact (by (with_reducible repeat (first | refine blk_drewN ?_ _ | refine blk_drew ?_ | refine blk_alloc ?_ _)); exact BK111.out)⟩; have n2_ : Aside0 (wc.heap[gb112]? = some (.cells #[.int .u32 0, .int .i64 0] 86 (0, 0))) := ⟨by rw [← hq_]; exact (by (with_reducible repeat (first | refine blk_drewN ?_ _ | refine blk_drew ?_ | refine blk_alloc ?_ _)); exact BK112.out)⟩; have n3_ : Aside0 (Below w.heap.size w wc) := ⟨by rw [← hq_]; exact (by repeat (first | (with_reducible first | exact HB.out | apply below_alloc | apply pw_below_drewN | apply below_drew1 | refine below_set ?_ GE110.out | refine below_set ?_ GE111.out | refine below_set ?_ GE112.out) | exact HB.out))⟩; clear BK110 BK111 BK112 HB hq_; have BK110 := n0_; have BK111 := n1_; have BK112 := n2_; have HB := n3_; clear n0_ n1_ n2_ n3_)); have hcz52_0 : wc.cell? ⟨gb112, 0, none⟩ = some (.int .u32 0) := (blk_cell BK112.out 0).trans rfl; have hcz52_1 : wc.cell? ⟨gb112, 1, none⟩ = some (.int .i64 0) := (blk_cell BK112.out 1).trans rfl; have hfz52_0 := blk_frozen BK112.out 0; have hfz52_1 := blk_frozen BK112.out 1))
                    refine bodyPost_ret (results_ct rfl _ _ gb112 86 #[.int .u32 t120, .int .i64 0] (0, 0) _ rfl (by (with_reducible repeat (first | refine blk_drewN ?_ _ | refine blk_drew ?_ | refine blk_alloc ?_ _)); refine blk_put (cs := #[.int .u32 t120, .int .i64 0]) ?_ 1 _ rfl; (with_reducible repeat (first | refine blk_drewN ?_ _ | refine blk_drew ?_ | refine blk_alloc ?_ _)); refine blk_put (cs := #[.int .u32 0, .int .i64 0]) ?_ 0 _ rfl; (with_reducible repeat (first | refine blk_drewN ?_ _ | refine blk_drew ?_ | refine blk_alloc ?_ _)); exact BK112.out) Tryd.underlying86 rfl (by kernel_rfl)) rfl ?_
                    exact ⟨by first | rfl | (simp [errW_none, errW_some] <;> rfl) | (simp [*, errW_none, errW_some] <;> rfl), by repeat (first | (with_reducible first | exact HB.out | apply below_alloc | apply pw_below_drewN | apply below_drew1 | refine below_set ?_ GE110.out | refine below_set ?_ GE111.out | refine below_set ?_ GE112.out) | exact HB.out)⟩
                  · replace c45 := Bool.eq_false_iff.mpr c45
                    subst c45
                    have H1 : (some (0, 0, 7)) = some (r1, r2, r3) := by rw [if_neg (show ¬ (false = true) by decide)] at H; exact H
                    clear H
                    have H := H1
                    clear H1
                    simp only [Option.some.injEq, Prod.mk.injEq] at H
                    obtain ⟨rfl, rfl, rfl⟩ := H
                    have hnb53 := NB112_110.out
                    have hnc53 := NB110_112.out
                    have hnb54 := NB112_111.out
                    have hnc54 := NB111_112.out
                    have hcz55_0 : wc.cell? ⟨gb112, 0, none⟩ = some (.int .u32 0) := (blk_cell BK112.out 0).trans rfl
                    have hcz55_1 : wc.cell? ⟨gb112, 1, none⟩ = some (.int .i64 0) := (blk_cell BK112.out 1).trans rfl
                    have hfz55_0 := blk_frozen BK112.out 0
                    have hfz55_1 := blk_frozen BK112.out 1
                    go_wp2
                    refine bodyPost_ret (results_ct rfl _ _ gb112 86 #[.int .u32 0, .int .i64 0] (0, 0) _ rfl (by (with_reducible repeat (first | refine blk_drewN ?_ _ | refine blk_drew ?_ | refine blk_alloc ?_ _)); refine blk_put (cs := #[.int .u32 0, .int .i64 0]) ?_ 1 _ rfl; (with_reducible repeat (first | refine blk_drewN ?_ _ | refine blk_drew ?_ | refine blk_alloc ?_ _)); refine blk_put (cs := #[.int .u32 0, .int .i64 0]) ?_ 0 _ rfl; (with_reducible repeat (first | refine blk_drewN ?_ _ | refine blk_drew ?_ | refine blk_alloc ?_ _)); exact BK112.out) Tryd.underlying86 rfl (by kernel_rfl)) rfl ?_
                    exact ⟨by first | rfl | (simp [errW_none, errW_some] <;> rfl) | (simp [*, errW_none, errW_some] <;> rfl), by repeat (first | (with_reducible first | exact HB.out | apply below_alloc | apply pw_below_drewN | apply below_drew1 | refine below_set ?_ GE110.out | refine below_set ?_ GE111.out | refine below_set ?_ GE112.out) | exact HB.out)⟩
          · rw [if_neg c35] at H
            have c35b0 : (a0 == 12) = false := beq_eq_false_iff_ne.mpr c35
            have c35b1 : (a0 != 12) = true := bne_iff_ne.mpr c35
            by_cases c56 : x8_3 = true
            · subst c56
              have H1 : ((eval_reckoned.f a0 a1_0 a2_0).bind fun t119 => (some (t119, 0, 0))) = some (r1, r2, r3) := by rw [if_pos rfl] at H; exact H
              clear H
              have H := H1
              clear H1
              replace H := Option.bind_eq_some_iff.mp H
              obtain ⟨t119, A570, H⟩ := H
              replace H : (some (t119, 0, 0)) = some (r1, r2, r3) := H
              have A57 := Aside0.mk A570
              clear A570
              simp only [Option.some.injEq, Prod.mk.injEq] at H
              obtain ⟨rfl, rfl, rfl⟩ := H
              have hnb58 := NB110_111.out
              have hnc58 := NB111_110.out
              have hnb59 := NB110_112.out
              have hnc59 := NB112_110.out
              have hcz60_0 : wc.cell? ⟨gb110, 0, none⟩ = some (.int .u32 a1_0) := (blk_cell BK110.out 0).trans rfl
              have hcz60_1 : wc.cell? ⟨gb110, 1, none⟩ = some (.int .i64 a1_1) := (blk_cell BK110.out 1).trans rfl
              have hfz60_0 := blk_frozen BK110.out 0
              have hfz60_1 := blk_frozen BK110.out 1
              have hnb61 := NB111_112.out
              have hnc61 := NB112_111.out
              have hcz62_0 : wc.cell? ⟨gb111, 0, none⟩ = some (.int .u32 a2_0) := (blk_cell BK111.out 0).trans rfl
              have hcz62_1 : wc.cell? ⟨gb111, 1, none⟩ = some (.int .i64 a2_1) := (blk_cell BK111.out 1).trans rfl
              have hfz62_0 := blk_frozen BK111.out 0
              have hfz62_1 := blk_frozen BK111.out 1
              go_wp2_with (first | ((with_reducible refine gate_callee (f := 57) rfl ?_); refine goesL_ (some 49) rfl rfl Tryd.func57 (by kernel_rfl) rfl #[.int .i64 a0, .int .u32 a1_0, .int .u32 a2_0] rfl (by (try simp only [List.map_toArray, List.map_cons, List.map_nil]); first | done | rfl | (simp only [List.length_drop, List.length_take]; rfl)) ?_; (with_reducible refine (eval_reckoned.calls a0 a1_0 a2_0 t119 _ A57.out).mono ?_); rintro e w' ⟨rfl, ⟨nd, rfl⟩⟩; refine ⟨_, rfl, ?_⟩; (try (rw [drewN_self wc]; generalize hq_ : World.drewN wc _ = wc; have n0_ : Aside0 (wc.heap[gb110]? = some (.cells #[.int .u32 a1_0, .int .i64 a1_1] 86 (0, 0))) := ⟨by rw [← hq_]; exact (by (with_reducible repeat (first | refine blk_drewN ?_ _ | refine blk_drew ?_ | refine blk_alloc ?_ _)); exact BK110.out)⟩; have n1_ : Aside0 (wc.heap[gb111]? = some (.cells #[.int .u32 a2_0, .int .i64 a2_1] 86 (0, 0))) := ⟨by rw [← hq_]; exact (by (with_reducible repeat (first | refine blk_drewN ?_ _ | refine blk_drew ?_ | refine blk_alloc ?_ _)); exact BK111.out)⟩; have n2_ : Aside0 (wc.heap[gb112]? = some (.cells #[.int .u32 0, .int .i64 0] 86 (0, 0))) := ⟨by rw [← hq_]; exact (by (with_reducible repeat (first | refine blk_drewN ?_ _ | refine blk_drew ?_ | refine blk_alloc ?_ _)); exact BK112.out)⟩; have n3_ : Aside0 (Below w.heap.size w wc) := ⟨by rw [← hq_]; exact (by repeat (first | (with_reducible first | exact HB.out | apply below_alloc | apply pw_below_drewN | apply below_drew1 | refine below_set ?_ GE110.out | refine below_set ?_ GE111.out | refine below_set ?_ GE112.out) | exact HB.out))⟩; clear BK110 BK111 BK112 HB hq_; have BK110 := n0_; have BK111 := n1_; have BK112 := n2_; have HB := n3_; clear n0_ n1_ n2_ n3_)); have hcz63_0 : wc.cell? ⟨gb112, 0, none⟩ = some (.int .u32 0) := (blk_cell BK112.out 0).trans rfl; have hcz63_1 : wc.cell? ⟨gb112, 1, none⟩ = some (.int .i64 0) := (blk_cell BK112.out 1).trans rfl; have hfz63_0 := blk_frozen BK112.out 0; have hfz63_1 := blk_frozen BK112.out 1))
              refine bodyPost_ret (results_ct rfl _ _ gb112 86 #[.int .u32 t119, .int .i64 0] (0, 0) _ rfl (by (with_reducible repeat (first | refine blk_drewN ?_ _ | refine blk_drew ?_ | refine blk_alloc ?_ _)); refine blk_put (cs := #[.int .u32 t119, .int .i64 0]) ?_ 1 _ rfl; (with_reducible repeat (first | refine blk_drewN ?_ _ | refine blk_drew ?_ | refine blk_alloc ?_ _)); refine blk_put (cs := #[.int .u32 0, .int .i64 0]) ?_ 0 _ rfl; (with_reducible repeat (first | refine blk_drewN ?_ _ | refine blk_drew ?_ | refine blk_alloc ?_ _)); exact BK112.out) Tryd.underlying86 rfl (by kernel_rfl)) rfl ?_
              exact ⟨by first | rfl | (simp [errW_none, errW_some] <;> rfl) | (simp [*, errW_none, errW_some] <;> rfl), by repeat (first | (with_reducible first | exact HB.out | apply below_alloc | apply pw_below_drewN | apply below_drew1 | refine below_set ?_ GE110.out | refine below_set ?_ GE111.out | refine below_set ?_ GE112.out) | exact HB.out)⟩
            · replace c56 := Bool.eq_false_iff.mpr c56
              subst c56
              have H1 : (some (0, 0, 7)) = some (r1, r2, r3) := by rw [if_neg (show ¬ (false = true) by decide)] at H; exact H
              clear H
              have H := H1
              clear H1
              simp only [Option.some.injEq, Prod.mk.injEq] at H
              obtain ⟨rfl, rfl, rfl⟩ := H
              have hnb64 := NB112_110.out
              have hnc64 := NB110_112.out
              have hnb65 := NB112_111.out
              have hnc65 := NB111_112.out
              have hcz66_0 : wc.cell? ⟨gb112, 0, none⟩ = some (.int .u32 0) := (blk_cell BK112.out 0).trans rfl
              have hcz66_1 : wc.cell? ⟨gb112, 1, none⟩ = some (.int .i64 0) := (blk_cell BK112.out 1).trans rfl
              have hfz66_0 := blk_frozen BK112.out 0
              have hfz66_1 := blk_frozen BK112.out 1
              go_wp2
              refine bodyPost_ret (results_ct rfl _ _ gb112 86 #[.int .u32 0, .int .i64 0] (0, 0) _ rfl (by (with_reducible repeat (first | refine blk_drewN ?_ _ | refine blk_drew ?_ | refine blk_alloc ?_ _)); refine blk_put (cs := #[.int .u32 0, .int .i64 0]) ?_ 1 _ rfl; (with_reducible repeat (first | refine blk_drewN ?_ _ | refine blk_drew ?_ | refine blk_alloc ?_ _)); refine blk_put (cs := #[.int .u32 0, .int .i64 0]) ?_ 0 _ rfl; (with_reducible repeat (first | refine blk_drewN ?_ _ | refine blk_drew ?_ | refine blk_alloc ?_ _)); exact BK112.out) Tryd.underlying86 rfl (by kernel_rfl)) rfl ?_
              exact ⟨by first | rfl | (simp [errW_none, errW_some] <;> rfl) | (simp [*, errW_none, errW_some] <;> rfl), by repeat (first | (with_reducible first | exact HB.out | apply below_alloc | apply pw_below_drewN | apply below_drew1 | refine below_set ?_ GE110.out | refine below_set ?_ GE111.out | refine below_set ?_ GE112.out) | exact HB.out)⟩

-- NOT PRINTED: function 23 (eval_reckoner_node)

-- NOT PRINTED: function 12 (eval_Value)

-- NOT PRINTED: function 40 (errors_is)

-- NOT PRINTED: function 24 (errors_Is)

-- NOT PRINTED: function 14 (typecaselaw10_Fault)

-- NOT PRINTED: function 8 (typecaselaw12_awake)

end Go.Proofs.YtgholjhcbhcicaaDoor.PAll
