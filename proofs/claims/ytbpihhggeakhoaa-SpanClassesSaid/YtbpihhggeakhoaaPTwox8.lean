-- Written by wip/tools/fprint.py: the kit's print.py, run with functions of this session's own put in. Not trusted: Lean checks it.
import Derived.Test.YtbpihhggeakhoaaPTwox0
import Derived.Test.YtbpihhggeakhoaaPTwox4
import Derived.Test.YtbpihhggeakhoaaPTwox5
import Derived.Test.YtbpihhggeakhoaaPTwox6
import Derived.Test.YtbpihhggeakhoaaPTwox7
namespace Go.Proofs.Ytbpihhggeakhoaa.PTwo
open Go.RowKit Go.Proofs.YtbpihhggeakhoaaW.PrintWords Go.Proofs.YtbpihhggeakhoaaW.PrintLast Go.Proofs.YtbpihhggeakhoaaW.PrintMore
attribute [local go_sem] max2_int min2_int max_two min_two max_three min_three max_four min_four   -- for this text's walks alone
set_option linter.unusedVariables false
set_option linter.unusedSimpArgs false

/-! ### typecaseref18_Next: function 11 -/
def typecaseref18_Next.l0 : Nat → Int → List Int → Int → Option (Int × Bool)
  | 0, _, _, _ => none
  | k + 1, x1, x6, x7 => if x7 < (x6.length : Int) then (if 0 ≤ x7 then (if (rd x6 x7) > x1 then (some (rd x6 x7, true)) else (typecaseref18_Next.l0 k x1 x6 (wrap64 (x7 + 1)))) else (none)) else (some (x1, false))
def typecaseref18_Next.f (k : Nat) (a0_0 : Int) (a0_1 : Int) (a0_2 : Int) (a0_3 : ByteArray) (a0_4 : Int) (a0_5 : Int) (a0_6 : Int) (a0_7 : Int) (a0_8 : Int) (a0_9 : ByteArray) (a0_10 : Int) (l0_11 : List (S86)) (a0_12 : Int) (a0_13 : Bool) (a0_14 : Bool) (a1 : Int) : Option (Int × Bool) := (typecaseref18_Classes.f k a0_0 a0_1 a0_2 a0_3 a0_4 a0_5 a0_6 a0_7 a0_8 a0_9 a0_10 l0_11 a0_12 a0_13 a0_14).bind fun t270 => (typecaseref18_Next.l0 k a1 t270 0)
theorem typecaseref18_Next.mono_l : ∀ k, (∀ y0 y1 y2, LeO (typecaseref18_Next.l0 k y0 y1 y2) (typecaseref18_Next.l0 (k + 1) y0 y1 y2))
  | 0 => fun _ _ _ r h => by simp [typecaseref18_Next.l0] at h
  | k + 1 => by
    have ih0 := typecaseref18_Next.mono_l k
    · intro y0 y1 y2
      unfold typecaseref18_Next.l0
      repeat' first
      | (with_reducible exact ih0 _ _ _)
      | (with_reducible exact typecaseref18_Classes.mono _ _ _ _ _ _ _ _ _ _ _ _ _ _ _ _)
      | (with_reducible exact LeO.refl _)
      | (with_reducible exact LeO.none _)
      | (with_reducible refine LeO.ite ?_ ?_)
      | (with_reducible refine LeO.bind ?_ (fun _ => ?_))
      | exact ih0 _ _ _
      | exact typecaseref18_Classes.mono _ _ _ _ _ _ _ _ _ _ _ _ _ _ _ _
      | exact LeO.none _
      | refine LeO.ite ?_ ?_
      | refine LeO.bind ?_ (fun _ => ?_)
theorem typecaseref18_Next.mono : ∀ a0 a1 a2 a3 a4 a5 a6 a7 a8 a9 a10 a11 a12 a13 a14 a15 k, LeO (typecaseref18_Next.f k a0 a1 a2 a3 a4 a5 a6 a7 a8 a9 a10 a11 a12 a13 a14 a15) (typecaseref18_Next.f (k + 1) a0 a1 a2 a3 a4 a5 a6 a7 a8 a9 a10 a11 a12 a13 a14 a15) := by
  intro a0 a1 a2 a3 a4 a5 a6 a7 a8 a9 a10 a11 a12 a13 a14 a15 k
  have ih0 := typecaseref18_Next.mono_l k
  unfold typecaseref18_Next.f
  repeat' first
      | (with_reducible exact ih0 _ _ _)
      | (with_reducible exact typecaseref18_Classes.mono _ _ _ _ _ _ _ _ _ _ _ _ _ _ _ _)
      | (with_reducible exact LeO.refl _)
      | (with_reducible exact LeO.none _)
      | (with_reducible refine LeO.ite ?_ ?_)
      | (with_reducible refine LeO.bind ?_ (fun _ => ?_))
      | exact ih0 _ _ _
      | exact typecaseref18_Classes.mono _ _ _ _ _ _ _ _ _ _ _ _ _ _ _ _
      | exact LeO.none _
      | refine LeO.ite ?_ ?_
      | refine LeO.bind ?_ (fun _ => ?_)
set_option maxHeartbeats 8000000 in
set_option maxRecDepth 100000 in
theorem typecaseref18_Next.calls (k : Nat) (a0_0 : Int) (a0_1 : Int) (a0_2 : Int) (a0_3 : ByteArray) (a0_4 : Int) (a0_5 : Int) (a0_6 : Int) (a0_7 : Int) (a0_8 : Int) (a0_9 : ByteArray) (a0_10 : Int) (A0_11 : Option Addr) (c0_11 : Nat) (l0_11 : List (S86)) (a0_12 : Int) (a0_13 : Bool) (a0_14 : Bool) (a1 : Int) (r1 : Int) (r2 : Bool) (w : World) (hr0_11 : Kd.C k86 w A0_11 l0_11.length l0_11) (hc0_11 : l0_11.length ≤ c0_11) (h : typecaseref18_Next.f k a0_0 a0_1 a0_2 a0_3 a0_4 a0_5 a0_6 a0_7 a0_8 a0_9 a0_10 l0_11 a0_12 a0_13 a0_14 a1 = some (r1, r2)) :
    Calls Try.prog 11 #[.agg #[.int .i64 a0_0, .int .i64 a0_1, .int .i64 a0_2, .string a0_3, .int .i64 a0_4, .int .i64 a0_5, .int .i64 a0_6, .int .i64 a0_7, .int .i32 a0_8, .string a0_9, .int .i64 a0_10, .slice A0_11 l0_11.length c0_11, .int .u32 a0_12, .bool a0_13, .bool a0_14], .int .i64 a1] w fun e w' => e = .returned (.tuple #[.int .i64 r1, .bool r2]) ∧ Below w.heap.size w w' := by
  have hu27 := Try.underlying27
  have HR0_11 := Aside0.mk hr0_11
  have HC0_11 := Aside0.mk hc0_11
  clear hr0_11 hc0_11
  have HB := Aside0.mk (Below.refl w.heap.size w)
  have H : ((typecaseref18_Classes.f k a0_0 a0_1 a0_2 a0_3 a0_4 a0_5 a0_6 a0_7 a0_8 a0_9 a0_10 l0_11 a0_12 a0_13 a0_14).bind fun t270 => (typecaseref18_Next.l0 k a1 t270 0)) = some (r1, r2) := h
  clear h
  replace H := Option.bind_eq_some_iff.mp H
  obtain ⟨t270, A30, H⟩ := H
  replace H : (typecaseref18_Next.l0 k a1 t270 0) = some (r1, r2) := H
  have A3 := Aside0.mk A30
  clear A30
  have H' := Aside0.mk H
  clear H
  go_enter Try.func11, Try.ntmps11
  go_wp2_with (first | ((with_reducible refine gate_dst (N := 2) rfl ?_); refine box_event ?hg (N := 2) ?hd (cs := #[.int .i64 a0_0, .int .i64 a0_1, .int .i64 a0_2, .string a0_3, .int .i64 a0_4, .int .i64 a0_5, .int .i64 a0_6, .int .i64 a0_7, .int .i32 a0_8, .string a0_9, .int .i64 a0_10, .slice A0_11 l0_11.length c0_11, .int .u32 a0_12, .bool a0_13, .bool a0_14]) (t := 27) ?hr ?_; (case hd => rfl); (case hg => rfl); (case hr => first | (go_simp; done) | (go_simp; rfl)); intro gb269 hg w4 hbox hb; have n0_ := Aside0.mk (below_step (by repeat (first | (with_reducible first | exact HB.out | apply below_alloc | apply pw_below_drewN | apply below_drew1) | exact HB.out)) hb); have n1_ := Aside0.mk (hbox); have n2_ := Aside0.mk ((by rw [hg]; exact (below_size (by repeat (first | (with_reducible first | exact HB.out | apply below_alloc | apply pw_below_drewN | apply below_drew1) | exact HB.out))) : w.heap.size ≤ gb269)); have n3_ := Aside0.mk ((by rw [hg]; exact (below_size (by repeat (first | (with_reducible first | exact HB.out | apply below_alloc | apply pw_below_drewN | apply below_drew1) | exact HB.out))) : w.heap.size ≤ gb269)); clear HB; have HB := n0_; have BK269 := n1_; have GW269 := n2_; have GE269 := n3_; clear n0_ n1_ n2_ n3_; clear hb hbox hg; have hcz5_0 : w4.cell? ⟨gb269, 0, none⟩ = some (.int .i64 a0_0) := (blk_cell BK269.out 0).trans rfl; have hcz5_1 : w4.cell? ⟨gb269, 1, none⟩ = some (.int .i64 a0_1) := (blk_cell BK269.out 1).trans rfl; have hcz5_2 : w4.cell? ⟨gb269, 2, none⟩ = some (.int .i64 a0_2) := (blk_cell BK269.out 2).trans rfl; have hcz5_3 : w4.cell? ⟨gb269, 3, none⟩ = some (.string a0_3) := (blk_cell BK269.out 3).trans rfl; have hcz5_4 : w4.cell? ⟨gb269, 4, none⟩ = some (.int .i64 a0_4) := (blk_cell BK269.out 4).trans rfl; have hcz5_5 : w4.cell? ⟨gb269, 5, none⟩ = some (.int .i64 a0_5) := (blk_cell BK269.out 5).trans rfl; have hcz5_6 : w4.cell? ⟨gb269, 6, none⟩ = some (.int .i64 a0_6) := (blk_cell BK269.out 6).trans rfl; have hcz5_7 : w4.cell? ⟨gb269, 7, none⟩ = some (.int .i64 a0_7) := (blk_cell BK269.out 7).trans rfl; have hcz5_8 : w4.cell? ⟨gb269, 8, none⟩ = some (.int .i32 a0_8) := (blk_cell BK269.out 8).trans rfl; have hcz5_9 : w4.cell? ⟨gb269, 9, none⟩ = some (.string a0_9) := (blk_cell BK269.out 9).trans rfl; have hcz5_10 : w4.cell? ⟨gb269, 10, none⟩ = some (.int .i64 a0_10) := (blk_cell BK269.out 10).trans rfl; have hcz5_11 : w4.cell? ⟨gb269, 11, none⟩ = some (.slice A0_11 l0_11.length c0_11) := (blk_cell BK269.out 11).trans rfl; have hcz5_12 : w4.cell? ⟨gb269, 12, none⟩ = some (.int .u32 a0_12) := (blk_cell BK269.out 12).trans rfl; have hcz5_13 : w4.cell? ⟨gb269, 13, none⟩ = some (.bool a0_13) := (blk_cell BK269.out 13).trans rfl; have hcz5_14 : w4.cell? ⟨gb269, 14, none⟩ = some (.bool a0_14) := (blk_cell BK269.out 14).trans rfl; have hfz5_0 := blk_frozen BK269.out 0; have hfz5_1 := blk_frozen BK269.out 1; have hfz5_2 := blk_frozen BK269.out 2; have hfz5_3 := blk_frozen BK269.out 3; have hfz5_4 := blk_frozen BK269.out 4; have hfz5_5 := blk_frozen BK269.out 5; have hfz5_6 := blk_frozen BK269.out 6; have hfz5_7 := blk_frozen BK269.out 7; have hfz5_8 := blk_frozen BK269.out 8; have hfz5_9 := blk_frozen BK269.out 9; have hfz5_10 := blk_frozen BK269.out 10; have hfz5_11 := blk_frozen BK269.out 11; have hfz5_12 := blk_frozen BK269.out 12; have hfz5_13 := blk_frozen BK269.out 13; have hfz5_14 := blk_frozen BK269.out 14) | ((with_reducible refine gate_callee (f := 14) rfl ?_); refine goesL_ (some 9) rfl rfl Try.func14 (by kernel_rfl) rfl #[.agg #[.int .i64 a0_0, .int .i64 a0_1, .int .i64 a0_2, .string a0_3, .int .i64 a0_4, .int .i64 a0_5, .int .i64 a0_6, .int .i64 a0_7, .int .i32 a0_8, .string a0_9, .int .i64 a0_10, .slice A0_11 l0_11.length c0_11, .int .u32 a0_12, .bool a0_13, .bool a0_14]] rfl (by (try simp only [List.map_toArray, List.map_cons, List.map_nil]); first | done | rfl | (simp only [List.length_drop, List.length_take]; rfl)) ?_; (with_reducible refine (typecaseref18_Classes.calls k a0_0 a0_1 a0_2 a0_3 a0_4 a0_5 a0_6 a0_7 a0_8 a0_9 a0_10 _ _ l0_11 a0_12 a0_13 a0_14 t270 _ ?side1 ?side2 A3.out).mono ?_); (case side1 => repeat (first | exact (Kd.C_below HR0_11.out HB.out) | (with_reducible refine Kd.C_alloc ?_ _) | (with_reducible refine Kd.C_drewN ?_ _) | (with_reducible refine Kd.C_drew ?_))); (case side2 => exact HC0_11.out); rintro e w6 ⟨v271, rfl, ho0, hb⟩; refine ⟨_, rfl, ?_⟩; have n0_ := Aside0.mk (Kd.R_lower ho0 (below_size (by repeat (first | (with_reducible first | exact HB.out | apply below_alloc | apply pw_below_drewN | apply below_drew1 | refine below_set ?_ GE269.out) | exact HB.out)))); have n1_ := Aside0.mk (blk_below (g := gb269) (o := .cells #[.int .i64 a0_0, .int .i64 a0_1, .int .i64 a0_2, .string a0_3, .int .i64 a0_4, .int .i64 a0_5, .int .i64 a0_6, .int .i64 a0_7, .int .i32 a0_8, .string a0_9, .int .i64 a0_10, .slice A0_11 l0_11.length c0_11, .int .u32 a0_12, .bool a0_13, .bool a0_14] 27 (0, 0)) (by (with_reducible repeat (first | refine blk_drewN ?_ _ | refine blk_drew ?_ | refine blk_alloc ?_ _)); exact BK269.out) hb); have n2_ := Aside0.mk (below_step (by repeat (first | (with_reducible first | exact HB.out | apply below_alloc | apply pw_below_drewN | apply below_drew1 | refine below_set ?_ GE269.out) | exact HB.out)) hb); clear BK269; clear HB; have HO272 := n0_; have BK269 := n1_; have HB := n2_; clear n0_ n1_ n2_; (try clear hb); (try clear hb2); (try clear hk); (try clear hi); (try clear ho0)))
  go_loopg [7] k (fun kq v7 w' => ∃ (x7_1 : Int), v7 = .int .i64 x7_1 ∧ Aside0 (typecaseref18_Next.l0 kq a1 t270 x7_1 = some (r1, r2)) ∧ Aside0 (kq ≤ k) ∧ Aside0 (Kd.R (Kd.int .i64) 3 w' w.heap.size (fun _ => True) v271 t270) ∧ Aside0 (w'.heap[gb269]? = some (.cells #[.int .i64 a0_0, .int .i64 a0_1, .int .i64 a0_2, .string a0_3, .int .i64 a0_4, .int .i64 a0_5, .int .i64 a0_6, .int .i64 a0_7, .int .i32 a0_8, .string a0_9, .int .i64 a0_10, (.slice A0_11 l0_11.length c0_11), .int .u32 a0_12, .bool a0_13, .bool a0_14] 27 (0, 0))) ∧ Aside0 (Below w.heap.size w w'))
  case atStart => exact ⟨(0), (by first | rfl | (simp; done) | (simp [*]; done)), H', ⟨Nat.le_refl _⟩, ⟨by (with_reducible repeat (first | apply Kd.R_alloc | apply Kd.R_drewN | apply Kd.R_drew)); exact HO272.out⟩, ⟨by (with_reducible repeat (first | refine blk_drewN ?_ _ | refine blk_drew ?_ | refine blk_alloc ?_ _)); exact BK269.out⟩, ⟨by repeat (first | (with_reducible first | exact HB.out | apply below_alloc | apply pw_below_drewN | apply below_drew1 | refine below_set ?_ GE269.out) | exact HB.out)⟩⟩
  case round =>
    clear H'
    try clear c1
    try clear p2
    try clear hcz5_0 hcz5_1 hcz5_10 hcz5_11 hcz5_12 hcz5_13 hcz5_14 hcz5_2 hcz5_3 hcz5_4 hcz5_5 hcz5_6 hcz5_7 hcz5_8 hcz5_9 hfz5_0 hfz5_1 hfz5_10 hfz5_11 hfz5_12 hfz5_13 hfz5_14 hfz5_2 hfz5_3 hfz5_4 hfz5_5 hfz5_6 hfz5_7 hfz5_8 hfz5_9
    obtain ⟨x7_1, rfl, HA, HK1, HO_6, BK269, HB⟩ := hrel
    cases gk with
    | zero => exact absurd HA.out (by simp [typecaseref18_Next.l0])
    | succ k1 =>
      have H := HA.out
      clear HA
      simp only [typecaseref18_Next.l0] at H
      by_cases c7 : x7_1 < (t270.length : Int)
      · rw [if_pos c7] at H
        have c7b0 : decide (x7_1 < (t270.length : Int)) = true := decide_eq_true c7
        clear c7
        by_cases c8 : 0 ≤ x7_1
        · rw [if_pos c8] at H
          have c8b0 : decide (0 ≤ x7_1) = true := decide_eq_true c8
          clear c8
          by_cases c9 : (rd t270 x7_1) > a1
          · rw [if_pos c9] at H
            have c9b0 : decide (a1 < (rd t270 x7_1)) = true := decide_eq_true c9
            clear c9
            simp only [Option.some.injEq, Prod.mk.injEq] at H
            obtain ⟨rfl, rfl⟩ := H
            obtain ⟨Ao10, co10, eo10⟩ := Kd.R_slice HO_6.out
            subst eo10
            have p273 : 0 ≤ (x7_1 : Int) := of_decide_eq_true (by first | (with_reducible assumption) | assumption)
            have q273 : x7_1 < (t270.length : Int) := of_decide_eq_true (by first | (with_reducible assumption) | assumption)
            obtain ⟨ad273, e273, hx273_0⟩ := Kd.at_int (Kd.R_reads' HO_6.out).2.2 x7_1 p273 q273
            cases e273
            replace p273 := eq_true p273
            replace q273 := eq_true q273
            have p274 : 0 ≤ (x7_1 : Int) := of_decide_eq_true (by first | (with_reducible assumption) | assumption)
            have q274 : x7_1 < (t270.length : Int) := of_decide_eq_true (by first | (with_reducible assumption) | assumption)
            obtain ⟨ad274, e274, hx274_0⟩ := Kd.at_int (Kd.R_reads' HO_6.out).2.2 x7_1 p274 q274
            obtain rfl : ad273 = ad274 := (by injection e274)
            replace p274 := eq_true p274
            replace q274 := eq_true q274
            go_wp2
            go_ret2
            exact ⟨by first | rfl | (simp [errW_none, errW_some] <;> rfl) | (simp [*, errW_none, errW_some] <;> rfl), by repeat (first | (with_reducible first | exact HB.out | apply below_alloc | apply pw_below_drewN | apply below_drew1 | refine below_set ?_ GE269.out) | exact HB.out)⟩
          · rw [if_neg c9] at H
            have c9b0 : decide (a1 < (rd t270 x7_1)) = false := decide_eq_false c9
            clear c9
            have H' := Aside0.mk H
            clear H
            obtain ⟨Ao11, co11, eo11⟩ := Kd.R_slice HO_6.out
            subst eo11
            have p273 : 0 ≤ (x7_1 : Int) := of_decide_eq_true (by first | (with_reducible assumption) | assumption)
            have q273 : x7_1 < (t270.length : Int) := of_decide_eq_true (by first | (with_reducible assumption) | assumption)
            obtain ⟨ad273, e273, hx273_0⟩ := Kd.at_int (Kd.R_reads' HO_6.out).2.2 x7_1 p273 q273
            cases e273
            replace p273 := eq_true p273
            replace q273 := eq_true q273
            go_wp2
            go_roundg k1
            case measure => have := HK1.out; omega
            case rel => exact ⟨(wrap64 (x7_1 + 1)), (by first | rfl | (simp; done) | (simp [*]; done)), H', ⟨by have := HK1.out; omega⟩, ⟨by (with_reducible repeat (first | apply Kd.R_alloc | apply Kd.R_drewN | apply Kd.R_drew)); exact HO_6.out⟩, ⟨by (with_reducible repeat (first | refine blk_drewN ?_ _ | refine blk_drew ?_ | refine blk_alloc ?_ _)); exact BK269.out⟩, ⟨by repeat (first | (with_reducible first | exact HB.out | apply below_alloc | apply pw_below_drewN | apply below_drew1 | refine below_set ?_ GE269.out) | exact HB.out)⟩⟩
        · rw [if_neg c8] at H
          exact absurd H (by simp)
      · rw [if_neg c7] at H
        have c7b0 : decide (x7_1 < (t270.length : Int)) = false := decide_eq_false c7
        clear c7
        simp only [Option.some.injEq, Prod.mk.injEq] at H
        obtain ⟨rfl, rfl⟩ := H
        obtain ⟨Ao12, co12, eo12⟩ := Kd.R_slice HO_6.out
        subst eo12
        go_wp2
        go_ret2
        exact ⟨by first | rfl | (simp [errW_none, errW_some] <;> rfl) | (simp [*, errW_none, errW_some] <;> rfl), by repeat (first | (with_reducible first | exact HB.out | apply below_alloc | apply pw_below_drewN | apply below_drew1 | refine below_set ?_ GE269.out) | exact HB.out)⟩

/-! ### typecaselaw18_SpanClasses: function 4 -/
def typecaselaw18_SpanClasses.f (k : Nat) (a0_0 : Int) (a0_1 : Int) (a0_2 : Int) (a0_3 : ByteArray) (a0_4 : Int) (a0_5 : Int) (a0_6 : Int) (a0_7 : Int) (a0_8 : Int) (a0_9 : ByteArray) (a0_10 : Int) (l0_11 : List (S86)) (a0_12 : Int) (a0_13 : Bool) (a0_14 : Bool) (a1 : Int) : Option (Bool) := (typecaselaw18_awake.f k).bind fun t276 => (if t276 = true then (if (a0_3.size : Int) > 1000 then (some true) else ((span_Next.f k a0_0 a0_1 a0_2 a0_3 a0_4 a0_5 a0_6 a0_7 a0_8 a0_9 a0_10 l0_11 a0_12 a0_13 a0_14 a1).bind fun bt277 => ((typecaseref18_Next.f k a0_0 a0_1 a0_2 a0_3 a0_4 a0_5 a0_6 a0_7 a0_8 a0_9 a0_10 l0_11 a0_12 a0_13 a0_14 a1).bind fun bt279 => ((span_Classes.f k a0_0 a0_1 a0_2 a0_3 a0_4 a0_5 a0_6 a0_7 a0_8 a0_9 a0_10 l0_11 a0_12 a0_13 a0_14).bind fun t281 => ((typecaseref18_Classes.f k a0_0 a0_1 a0_2 a0_3 a0_4 a0_5 a0_6 a0_7 a0_8 a0_9 a0_10 l0_11 a0_12 a0_13 a0_14).bind fun t284 => ((typecaselaw18_ints.f k t281 t284).bind fun t287 => (if t287 = true then (if bt277.1 = bt279.1 then (some (bt277.2 == bt279.2)) else (some false)) else (some false)))))))) else (some false))
theorem typecaselaw18_SpanClasses.mono : ∀ a0 a1 a2 a3 a4 a5 a6 a7 a8 a9 a10 a11 a12 a13 a14 a15 k, LeO (typecaselaw18_SpanClasses.f k a0 a1 a2 a3 a4 a5 a6 a7 a8 a9 a10 a11 a12 a13 a14 a15) (typecaselaw18_SpanClasses.f (k + 1) a0 a1 a2 a3 a4 a5 a6 a7 a8 a9 a10 a11 a12 a13 a14 a15) := by
  intro a0 a1 a2 a3 a4 a5 a6 a7 a8 a9 a10 a11 a12 a13 a14 a15 k
  unfold typecaselaw18_SpanClasses.f
  repeat' first
      | (with_reducible exact span_Classes.mono _ _ _ _ _ _ _ _ _ _ _ _ _ _ _ _)
      | (with_reducible exact span_Next.mono _ _ _ _ _ _ _ _ _ _ _ _ _ _ _ _ _)
      | (with_reducible exact typecaselaw18_awake.mono _)
      | (with_reducible exact typecaselaw18_ints.mono _ _ _)
      | (with_reducible exact typecaseref18_Classes.mono _ _ _ _ _ _ _ _ _ _ _ _ _ _ _ _)
      | (with_reducible exact typecaseref18_Next.mono _ _ _ _ _ _ _ _ _ _ _ _ _ _ _ _ _)
      | (with_reducible exact LeO.refl _)
      | (with_reducible exact LeO.none _)
      | (with_reducible refine LeO.ite ?_ ?_)
      | (with_reducible refine LeO.bind ?_ (fun _ => ?_))
      | exact span_Classes.mono _ _ _ _ _ _ _ _ _ _ _ _ _ _ _ _
      | exact span_Next.mono _ _ _ _ _ _ _ _ _ _ _ _ _ _ _ _ _
      | exact typecaselaw18_awake.mono _
      | exact typecaselaw18_ints.mono _ _ _
      | exact typecaseref18_Classes.mono _ _ _ _ _ _ _ _ _ _ _ _ _ _ _ _
      | exact typecaseref18_Next.mono _ _ _ _ _ _ _ _ _ _ _ _ _ _ _ _ _
      | exact LeO.none _
      | refine LeO.ite ?_ ?_
      | refine LeO.bind ?_ (fun _ => ?_)
def typecaselaw18_SpanClasses.T7 : Bool × List (List Nat × List Nat) := (true, [([], []), ([0], [0]), ([], []), ([2, 1], [2]), ([1, 3, 3], [1, 3]), ([4, 4], [4]), ([5], [5]), ([5], [5]), ([6, 7, 5], [5, 6, 7]), ([5, 8], [5, 8]), ([9, 5], [9]), ([10], [10]), ([10], [10]), ([11, 12, 10], [10, 11, 12]), ([10, 13], [10, 13]), ([14, 10, 0, 1, 2, 3, 4, 5, 6, 7, 8, 9, 10, 11, 12, 13, 14], [14])])
def typecaselaw18_SpanClasses.B7 : List Nat := [0, 1, 0, 7, 15, 31, 63, 63, 255, 511, 1023, 2047, 2047, 8191, 16383, 32767]
theorem typecaselaw18_SpanClasses.tab7 : rtab .any (opsOf Try.f4 7) = typecaselaw18_SpanClasses.T7 := by kernel_rfl
theorem typecaselaw18_SpanClasses.bits7 : waitsOk typecaselaw18_SpanClasses.T7.2 typecaselaw18_SpanClasses.B7 = true := by kernel_rfl
set_option maxHeartbeats 8000000 in
set_option maxRecDepth 100000 in
theorem typecaselaw18_SpanClasses.calls (k : Nat) (a0_0 : Int) (a0_1 : Int) (a0_2 : Int) (a0_3 : ByteArray) (a0_4 : Int) (a0_5 : Int) (a0_6 : Int) (a0_7 : Int) (a0_8 : Int) (a0_9 : ByteArray) (a0_10 : Int) (A0_11 : Option Addr) (c0_11 : Nat) (l0_11 : List (S86)) (a0_12 : Int) (a0_13 : Bool) (a0_14 : Bool) (a1 : Int) (r : Bool) (w : World) (hr0_11 : Kd.C k86 w A0_11 l0_11.length l0_11) (hc0_11 : l0_11.length ≤ c0_11) (h : typecaselaw18_SpanClasses.f k a0_0 a0_1 a0_2 a0_3 a0_4 a0_5 a0_6 a0_7 a0_8 a0_9 a0_10 l0_11 a0_12 a0_13 a0_14 a1 = some r) :
    Calls Try.prog 4 #[.agg #[.int .i64 a0_0, .int .i64 a0_1, .int .i64 a0_2, .string a0_3, .int .i64 a0_4, .int .i64 a0_5, .int .i64 a0_6, .int .i64 a0_7, .int .i32 a0_8, .string a0_9, .int .i64 a0_10, .slice A0_11 l0_11.length c0_11, .int .u32 a0_12, .bool a0_13, .bool a0_14], .int .i64 a1] w fun e w' => e = .returned (.bool r) ∧ Below w.heap.size w w' := by
  have hu27 := Try.underlying27
  have HR0_11 := Aside0.mk hr0_11
  have HC0_11 := Aside0.mk hc0_11
  clear hr0_11 hc0_11
  have HB := Aside0.mk (Below.refl w.heap.size w)
  have H : ((typecaselaw18_awake.f k).bind fun t276 => (if t276 = true then (if (a0_3.size : Int) > 1000 then (some true) else ((span_Next.f k a0_0 a0_1 a0_2 a0_3 a0_4 a0_5 a0_6 a0_7 a0_8 a0_9 a0_10 l0_11 a0_12 a0_13 a0_14 a1).bind fun bt277 => ((typecaseref18_Next.f k a0_0 a0_1 a0_2 a0_3 a0_4 a0_5 a0_6 a0_7 a0_8 a0_9 a0_10 l0_11 a0_12 a0_13 a0_14 a1).bind fun bt279 => ((span_Classes.f k a0_0 a0_1 a0_2 a0_3 a0_4 a0_5 a0_6 a0_7 a0_8 a0_9 a0_10 l0_11 a0_12 a0_13 a0_14).bind fun t281 => ((typecaseref18_Classes.f k a0_0 a0_1 a0_2 a0_3 a0_4 a0_5 a0_6 a0_7 a0_8 a0_9 a0_10 l0_11 a0_12 a0_13 a0_14).bind fun t284 => ((typecaselaw18_ints.f k t281 t284).bind fun t287 => (if t287 = true then (if bt277.1 = bt279.1 then (some (bt277.2 == bt279.2)) else (some false)) else (some false)))))))) else (some false))) = some r := h
  clear h
  replace H := Option.bind_eq_some_iff.mp H
  obtain ⟨t276, A30, H⟩ := H
  replace H : (if t276 = true then (if (a0_3.size : Int) > 1000 then (some true) else ((span_Next.f k a0_0 a0_1 a0_2 a0_3 a0_4 a0_5 a0_6 a0_7 a0_8 a0_9 a0_10 l0_11 a0_12 a0_13 a0_14 a1).bind fun bt277 => ((typecaseref18_Next.f k a0_0 a0_1 a0_2 a0_3 a0_4 a0_5 a0_6 a0_7 a0_8 a0_9 a0_10 l0_11 a0_12 a0_13 a0_14 a1).bind fun bt279 => ((span_Classes.f k a0_0 a0_1 a0_2 a0_3 a0_4 a0_5 a0_6 a0_7 a0_8 a0_9 a0_10 l0_11 a0_12 a0_13 a0_14).bind fun t281 => ((typecaseref18_Classes.f k a0_0 a0_1 a0_2 a0_3 a0_4 a0_5 a0_6 a0_7 a0_8 a0_9 a0_10 l0_11 a0_12 a0_13 a0_14).bind fun t284 => ((typecaselaw18_ints.f k t281 t284).bind fun t287 => (if t287 = true then (if bt277.1 = bt279.1 then (some (bt277.2 == bt279.2)) else (some false)) else (some false)))))))) else (some false)) = some r := H
  have A3 := Aside0.mk A30
  clear A30
  by_cases c4 : t276 = true
  · subst c4
    have H1 : (if (a0_3.size : Int) > 1000 then (some true) else ((span_Next.f k a0_0 a0_1 a0_2 a0_3 a0_4 a0_5 a0_6 a0_7 a0_8 a0_9 a0_10 l0_11 a0_12 a0_13 a0_14 a1).bind fun bt277 => ((typecaseref18_Next.f k a0_0 a0_1 a0_2 a0_3 a0_4 a0_5 a0_6 a0_7 a0_8 a0_9 a0_10 l0_11 a0_12 a0_13 a0_14 a1).bind fun bt279 => ((span_Classes.f k a0_0 a0_1 a0_2 a0_3 a0_4 a0_5 a0_6 a0_7 a0_8 a0_9 a0_10 l0_11 a0_12 a0_13 a0_14).bind fun t281 => ((typecaseref18_Classes.f k a0_0 a0_1 a0_2 a0_3 a0_4 a0_5 a0_6 a0_7 a0_8 a0_9 a0_10 l0_11 a0_12 a0_13 a0_14).bind fun t284 => ((typecaselaw18_ints.f k t281 t284).bind fun t287 => (if t287 = true then (if bt277.1 = bt279.1 then (some (bt277.2 == bt279.2)) else (some false)) else (some false)))))))) = some r := by rw [if_pos rfl] at H; exact H
    clear H
    have H := H1
    clear H1
    by_cases c5 : (a0_3.size : Int) > 1000
    · rw [if_pos c5] at H
      have c5b0 : decide (1000 < (a0_3.size : Int)) = true := decide_eq_true c5
      have c5b1 : decide (1000 < a0_3.size) = true := decide_eq_true (by omega)
      clear c5
      obtain rfl := Option.some.inj H
      as_aux_lemma =>
        go_enter Try.func4, Try.ntmps4
        go_wp2_with (first | ((with_reducible refine gate_dst (N := 2) rfl ?_); refine box_event ?hg (N := 2) ?hd (cs := #[.int .i64 a0_0, .int .i64 a0_1, .int .i64 a0_2, .string a0_3, .int .i64 a0_4, .int .i64 a0_5, .int .i64 a0_6, .int .i64 a0_7, .int .i32 a0_8, .string a0_9, .int .i64 a0_10, .slice A0_11 l0_11.length c0_11, .int .u32 a0_12, .bool a0_13, .bool a0_14]) (t := 27) ?hr ?_; (case hd => rfl); (case hg => rfl); (case hr => first | (go_simp; done) | (go_simp; rfl)); intro gb275 hg w6 hbox hb; have n0_ := Aside0.mk (below_step (by repeat (first | (with_reducible first | exact HB.out | apply below_alloc | apply pw_below_drewN | apply below_drew1) | exact HB.out)) hb); have n1_ := Aside0.mk (hbox); have n2_ := Aside0.mk ((by rw [hg]; exact (below_size (by repeat (first | (with_reducible first | exact HB.out | apply below_alloc | apply pw_below_drewN | apply below_drew1) | exact HB.out))) : w.heap.size ≤ gb275)); have n3_ := Aside0.mk ((by rw [hg]; exact (below_size (by repeat (first | (with_reducible first | exact HB.out | apply below_alloc | apply pw_below_drewN | apply below_drew1) | exact HB.out))) : w.heap.size ≤ gb275)); clear HB; have HB := n0_; have BK275 := n1_; have GW275 := n2_; have GE275 := n3_; clear n0_ n1_ n2_ n3_; clear hb hbox hg) | ((with_reducible refine gate_callee (f := 7) rfl ?_); refine goesL_ (some 9) rfl rfl Try.func7 (by kernel_rfl) rfl #[] rfl (by (try simp only [List.map_toArray, List.map_cons, List.map_nil]); first | done | rfl | (simp only [List.length_drop, List.length_take]; rfl)) ?_; (with_reducible refine (typecaselaw18_awake.calls k  true _ A3.out).mono ?_); rintro e w7 ⟨rfl, hb⟩; refine ⟨_, rfl, ?_⟩; have n0_ := Aside0.mk (blk_below (g := gb275) (o := .cells #[.int .i64 a0_0, .int .i64 a0_1, .int .i64 a0_2, .string a0_3, .int .i64 a0_4, .int .i64 a0_5, .int .i64 a0_6, .int .i64 a0_7, .int .i32 a0_8, .string a0_9, .int .i64 a0_10, .slice A0_11 l0_11.length c0_11, .int .u32 a0_12, .bool a0_13, .bool a0_14] 27 (0, 0)) (by (with_reducible repeat (first | refine blk_drewN ?_ _ | refine blk_drew ?_ | refine blk_alloc ?_ _)); exact BK275.out) hb); have n1_ := Aside0.mk (below_step (by repeat (first | (with_reducible first | exact HB.out | apply below_alloc | apply pw_below_drewN | apply below_drew1 | refine below_set ?_ GE275.out) | exact HB.out)) hb); clear BK275; clear HB; have BK275 := n0_; have HB := n1_; clear n0_ n1_; (try clear hb); (try clear hb2); (try clear hk); (try clear hi); have hcz8_0 : w7.cell? ⟨gb275, 0, none⟩ = some (.int .i64 a0_0) := (blk_cell BK275.out 0).trans rfl; have hcz8_1 : w7.cell? ⟨gb275, 1, none⟩ = some (.int .i64 a0_1) := (blk_cell BK275.out 1).trans rfl; have hcz8_2 : w7.cell? ⟨gb275, 2, none⟩ = some (.int .i64 a0_2) := (blk_cell BK275.out 2).trans rfl; have hcz8_3 : w7.cell? ⟨gb275, 3, none⟩ = some (.string a0_3) := (blk_cell BK275.out 3).trans rfl; have hcz8_4 : w7.cell? ⟨gb275, 4, none⟩ = some (.int .i64 a0_4) := (blk_cell BK275.out 4).trans rfl; have hcz8_5 : w7.cell? ⟨gb275, 5, none⟩ = some (.int .i64 a0_5) := (blk_cell BK275.out 5).trans rfl; have hcz8_6 : w7.cell? ⟨gb275, 6, none⟩ = some (.int .i64 a0_6) := (blk_cell BK275.out 6).trans rfl; have hcz8_7 : w7.cell? ⟨gb275, 7, none⟩ = some (.int .i64 a0_7) := (blk_cell BK275.out 7).trans rfl; have hcz8_8 : w7.cell? ⟨gb275, 8, none⟩ = some (.int .i32 a0_8) := (blk_cell BK275.out 8).trans rfl; have hcz8_9 : w7.cell? ⟨gb275, 9, none⟩ = some (.string a0_9) := (blk_cell BK275.out 9).trans rfl; have hcz8_10 : w7.cell? ⟨gb275, 10, none⟩ = some (.int .i64 a0_10) := (blk_cell BK275.out 10).trans rfl; have hcz8_11 : w7.cell? ⟨gb275, 11, none⟩ = some (.slice A0_11 l0_11.length c0_11) := (blk_cell BK275.out 11).trans rfl; have hcz8_12 : w7.cell? ⟨gb275, 12, none⟩ = some (.int .u32 a0_12) := (blk_cell BK275.out 12).trans rfl; have hcz8_13 : w7.cell? ⟨gb275, 13, none⟩ = some (.bool a0_13) := (blk_cell BK275.out 13).trans rfl; have hcz8_14 : w7.cell? ⟨gb275, 14, none⟩ = some (.bool a0_14) := (blk_cell BK275.out 14).trans rfl; have hfz8_0 := blk_frozen BK275.out 0; have hfz8_1 := blk_frozen BK275.out 1; have hfz8_2 := blk_frozen BK275.out 2; have hfz8_3 := blk_frozen BK275.out 3; have hfz8_4 := blk_frozen BK275.out 4; have hfz8_5 := blk_frozen BK275.out 5; have hfz8_6 := blk_frozen BK275.out 6; have hfz8_7 := blk_frozen BK275.out 7; have hfz8_8 := blk_frozen BK275.out 8; have hfz8_9 := blk_frozen BK275.out 9; have hfz8_10 := blk_frozen BK275.out 10; have hfz8_11 := blk_frozen BK275.out 11; have hfz8_12 := blk_frozen BK275.out 12; have hfz8_13 := blk_frozen BK275.out 13; have hfz8_14 := blk_frozen BK275.out 14))
        go_ret
        exact ⟨by first | rfl | (simp [errW_none, errW_some] <;> rfl) | (simp [*, errW_none, errW_some] <;> rfl), by repeat (first | (with_reducible first | exact HB.out | apply below_alloc | apply pw_below_drewN | apply below_drew1 | refine below_set ?_ GE275.out) | exact HB.out)⟩
    · rw [if_neg c5] at H
      have c5b0 : decide (1000 < (a0_3.size : Int)) = false := decide_eq_false c5
      have c5b1 : decide (1000 < a0_3.size) = false := decide_eq_false (by omega)
      clear c5
      replace H := Option.bind_eq_some_iff.mp H
      obtain ⟨⟨t277, t278⟩, A90, H⟩ := H
      replace H : ((typecaseref18_Next.f k a0_0 a0_1 a0_2 a0_3 a0_4 a0_5 a0_6 a0_7 a0_8 a0_9 a0_10 l0_11 a0_12 a0_13 a0_14 a1).bind fun bt279 => ((span_Classes.f k a0_0 a0_1 a0_2 a0_3 a0_4 a0_5 a0_6 a0_7 a0_8 a0_9 a0_10 l0_11 a0_12 a0_13 a0_14).bind fun t281 => ((typecaseref18_Classes.f k a0_0 a0_1 a0_2 a0_3 a0_4 a0_5 a0_6 a0_7 a0_8 a0_9 a0_10 l0_11 a0_12 a0_13 a0_14).bind fun t284 => ((typecaselaw18_ints.f k t281 t284).bind fun t287 => (if t287 = true then (if t277 = bt279.1 then (some (t278 == bt279.2)) else (some false)) else (some false)))))) = some r := H
      have A9 := Aside0.mk A90
      clear A90
      replace H := Option.bind_eq_some_iff.mp H
      obtain ⟨⟨t279, t280⟩, A100, H⟩ := H
      replace H : ((span_Classes.f k a0_0 a0_1 a0_2 a0_3 a0_4 a0_5 a0_6 a0_7 a0_8 a0_9 a0_10 l0_11 a0_12 a0_13 a0_14).bind fun t281 => ((typecaseref18_Classes.f k a0_0 a0_1 a0_2 a0_3 a0_4 a0_5 a0_6 a0_7 a0_8 a0_9 a0_10 l0_11 a0_12 a0_13 a0_14).bind fun t284 => ((typecaselaw18_ints.f k t281 t284).bind fun t287 => (if t287 = true then (if t277 = t279 then (some (t278 == t280)) else (some false)) else (some false))))) = some r := H
      have A10 := Aside0.mk A100
      clear A100
      replace H := Option.bind_eq_some_iff.mp H
      obtain ⟨t281, A110, H⟩ := H
      replace H : ((typecaseref18_Classes.f k a0_0 a0_1 a0_2 a0_3 a0_4 a0_5 a0_6 a0_7 a0_8 a0_9 a0_10 l0_11 a0_12 a0_13 a0_14).bind fun t284 => ((typecaselaw18_ints.f k t281 t284).bind fun t287 => (if t287 = true then (if t277 = t279 then (some (t278 == t280)) else (some false)) else (some false)))) = some r := H
      have A11 := Aside0.mk A110
      clear A110
      replace H := Option.bind_eq_some_iff.mp H
      obtain ⟨t284, A120, H⟩ := H
      replace H : ((typecaselaw18_ints.f k t281 t284).bind fun t287 => (if t287 = true then (if t277 = t279 then (some (t278 == t280)) else (some false)) else (some false))) = some r := H
      have A12 := Aside0.mk A120
      clear A120
      replace H := Option.bind_eq_some_iff.mp H
      obtain ⟨t287, A130, H⟩ := H
      replace H : (if t287 = true then (if t277 = t279 then (some (t278 == t280)) else (some false)) else (some false)) = some r := H
      have A13 := Aside0.mk A130
      clear A130
      by_cases c14 : t287 = true
      · subst c14
        have H1 : (if t277 = t279 then (some (t278 == t280)) else (some false)) = some r := by rw [if_pos rfl] at H; exact H
        clear H
        have H := H1
        clear H1
        by_cases c15 : t277 = t279
        · rw [if_pos c15] at H
          have c15b0 : (t277 == t279) = true := beq_iff_eq.mpr c15
          have c15b1 : (t277 != t279) = false := bne_eq_false_iff_eq.mpr c15
          clear c15
          obtain rfl := Option.some.inj H
          as_aux_lemma =>
            go_enter Try.func4, Try.ntmps4
            try go_wp2_with (first | ((with_reducible refine gate_dst (N := 2) rfl ?_); refine box_event ?hg (N := 2) ?hd (cs := #[.int .i64 a0_0, .int .i64 a0_1, .int .i64 a0_2, .string a0_3, .int .i64 a0_4, .int .i64 a0_5, .int .i64 a0_6, .int .i64 a0_7, .int .i32 a0_8, .string a0_9, .int .i64 a0_10, .slice A0_11 l0_11.length c0_11, .int .u32 a0_12, .bool a0_13, .bool a0_14]) (t := 27) ?hr ?_; (case hd => rfl); (case hg => rfl); (case hr => first | (go_simp; done) | (go_simp; rfl)); intro gb275 hg w16 hbox hb; have n0_ := Aside0.mk (below_step (by repeat (first | (with_reducible first | exact HB.out | apply below_alloc | apply pw_below_drewN | apply below_drew1) | exact HB.out)) hb); have n1_ := Aside0.mk (hbox); have n2_ := Aside0.mk ((by rw [hg]; exact (below_size (by repeat (first | (with_reducible first | exact HB.out | apply below_alloc | apply pw_below_drewN | apply below_drew1) | exact HB.out))) : w.heap.size ≤ gb275)); have n3_ := Aside0.mk ((by rw [hg]; exact (below_size (by repeat (first | (with_reducible first | exact HB.out | apply below_alloc | apply pw_below_drewN | apply below_drew1) | exact HB.out))) : w.heap.size ≤ gb275)); clear HB; have HB := n0_; have BK275 := n1_; have GW275 := n2_; have GE275 := n3_; clear n0_ n1_ n2_ n3_; clear hb hbox hg) | ((with_reducible refine gate_callee (f := 7) rfl ?_); refine goesL_ (some 9) rfl rfl Try.func7 (by kernel_rfl) rfl #[] rfl (by (try simp only [List.map_toArray, List.map_cons, List.map_nil]); first | done | rfl | (simp only [List.length_drop, List.length_take]; rfl)) ?_; (with_reducible refine (typecaselaw18_awake.calls k  true _ A3.out).mono ?_); rintro e w17 ⟨rfl, hb⟩; refine ⟨_, rfl, ?_⟩; have n0_ := Aside0.mk (blk_below (g := gb275) (o := .cells #[.int .i64 a0_0, .int .i64 a0_1, .int .i64 a0_2, .string a0_3, .int .i64 a0_4, .int .i64 a0_5, .int .i64 a0_6, .int .i64 a0_7, .int .i32 a0_8, .string a0_9, .int .i64 a0_10, .slice A0_11 l0_11.length c0_11, .int .u32 a0_12, .bool a0_13, .bool a0_14] 27 (0, 0)) (by (with_reducible repeat (first | refine blk_drewN ?_ _ | refine blk_drew ?_ | refine blk_alloc ?_ _)); exact BK275.out) hb); have n1_ := Aside0.mk (below_step (by repeat (first | (with_reducible first | exact HB.out | apply below_alloc | apply pw_below_drewN | apply below_drew1 | refine below_set ?_ GE275.out) | exact HB.out)) hb); clear BK275; clear HB; have BK275 := n0_; have HB := n1_; clear n0_ n1_; (try clear hb); (try clear hb2); (try clear hk); (try clear hi); have hcz18_0 : w17.cell? ⟨gb275, 0, none⟩ = some (.int .i64 a0_0) := (blk_cell BK275.out 0).trans rfl; have hcz18_1 : w17.cell? ⟨gb275, 1, none⟩ = some (.int .i64 a0_1) := (blk_cell BK275.out 1).trans rfl; have hcz18_2 : w17.cell? ⟨gb275, 2, none⟩ = some (.int .i64 a0_2) := (blk_cell BK275.out 2).trans rfl; have hcz18_3 : w17.cell? ⟨gb275, 3, none⟩ = some (.string a0_3) := (blk_cell BK275.out 3).trans rfl; have hcz18_4 : w17.cell? ⟨gb275, 4, none⟩ = some (.int .i64 a0_4) := (blk_cell BK275.out 4).trans rfl; have hcz18_5 : w17.cell? ⟨gb275, 5, none⟩ = some (.int .i64 a0_5) := (blk_cell BK275.out 5).trans rfl; have hcz18_6 : w17.cell? ⟨gb275, 6, none⟩ = some (.int .i64 a0_6) := (blk_cell BK275.out 6).trans rfl; have hcz18_7 : w17.cell? ⟨gb275, 7, none⟩ = some (.int .i64 a0_7) := (blk_cell BK275.out 7).trans rfl; have hcz18_8 : w17.cell? ⟨gb275, 8, none⟩ = some (.int .i32 a0_8) := (blk_cell BK275.out 8).trans rfl; have hcz18_9 : w17.cell? ⟨gb275, 9, none⟩ = some (.string a0_9) := (blk_cell BK275.out 9).trans rfl; have hcz18_10 : w17.cell? ⟨gb275, 10, none⟩ = some (.int .i64 a0_10) := (blk_cell BK275.out 10).trans rfl; have hcz18_11 : w17.cell? ⟨gb275, 11, none⟩ = some (.slice A0_11 l0_11.length c0_11) := (blk_cell BK275.out 11).trans rfl; have hcz18_12 : w17.cell? ⟨gb275, 12, none⟩ = some (.int .u32 a0_12) := (blk_cell BK275.out 12).trans rfl; have hcz18_13 : w17.cell? ⟨gb275, 13, none⟩ = some (.bool a0_13) := (blk_cell BK275.out 13).trans rfl; have hcz18_14 : w17.cell? ⟨gb275, 14, none⟩ = some (.bool a0_14) := (blk_cell BK275.out 14).trans rfl; have hfz18_0 := blk_frozen BK275.out 0; have hfz18_1 := blk_frozen BK275.out 1; have hfz18_2 := blk_frozen BK275.out 2; have hfz18_3 := blk_frozen BK275.out 3; have hfz18_4 := blk_frozen BK275.out 4; have hfz18_5 := blk_frozen BK275.out 5; have hfz18_6 := blk_frozen BK275.out 6; have hfz18_7 := blk_frozen BK275.out 7; have hfz18_8 := blk_frozen BK275.out 8; have hfz18_9 := blk_frozen BK275.out 9; have hfz18_10 := blk_frozen BK275.out 10; have hfz18_11 := blk_frozen BK275.out 11; have hfz18_12 := blk_frozen BK275.out 12; have hfz18_13 := blk_frozen BK275.out 13; have hfz18_14 := blk_frozen BK275.out 14) | ((with_reducible refine gate_callee (f := 10) rfl ?_); refine goesL_ (some 18) rfl rfl Try.func10 (by kernel_rfl) rfl #[.agg #[.int .i64 a0_0, .int .i64 a0_1, .int .i64 a0_2, .string a0_3, .int .i64 a0_4, .int .i64 a0_5, .int .i64 a0_6, .int .i64 a0_7, .int .i32 a0_8, .string a0_9, .int .i64 a0_10, .slice A0_11 l0_11.length c0_11, .int .u32 a0_12, .bool a0_13, .bool a0_14], .int .i64 a1] rfl (by (try simp only [List.map_toArray, List.map_cons, List.map_nil]); first | done | rfl | (simp only [List.length_drop, List.length_take]; rfl)) ?_; (with_reducible refine (span_Next.calls k a0_0 a0_1 a0_2 a0_3 a0_4 a0_5 a0_6 a0_7 a0_8 a0_9 a0_10 _ _ l0_11 a0_12 a0_13 a0_14 a1 t277 t278 _ ?side1 ?side2 A9.out).mono ?_); (case side1 => repeat (first | exact (Kd.C_below HR0_11.out HB.out) | (with_reducible refine Kd.C_alloc ?_ _) | (with_reducible refine Kd.C_drewN ?_ _) | (with_reducible refine Kd.C_drew ?_))); (case side2 => exact HC0_11.out); rintro e w19 ⟨rfl, hb⟩; refine ⟨_, rfl, ?_⟩; have n0_ := Aside0.mk (blk_below (g := gb275) (o := .cells #[.int .i64 a0_0, .int .i64 a0_1, .int .i64 a0_2, .string a0_3, .int .i64 a0_4, .int .i64 a0_5, .int .i64 a0_6, .int .i64 a0_7, .int .i32 a0_8, .string a0_9, .int .i64 a0_10, .slice A0_11 l0_11.length c0_11, .int .u32 a0_12, .bool a0_13, .bool a0_14] 27 (0, 0)) (by (with_reducible repeat (first | refine blk_drewN ?_ _ | refine blk_drew ?_ | refine blk_alloc ?_ _)); exact BK275.out) hb); have n1_ := Aside0.mk (below_step (by repeat (first | (with_reducible first | exact HB.out | apply below_alloc | apply pw_below_drewN | apply below_drew1 | refine below_set ?_ GE275.out) | exact HB.out)) hb); clear BK275; clear HB; have BK275 := n0_; have HB := n1_; clear n0_ n1_; (try clear hb); (try clear hb2); (try clear hk); (try clear hi); have hcz20_0 : w19.cell? ⟨gb275, 0, none⟩ = some (.int .i64 a0_0) := (blk_cell BK275.out 0).trans rfl; have hcz20_1 : w19.cell? ⟨gb275, 1, none⟩ = some (.int .i64 a0_1) := (blk_cell BK275.out 1).trans rfl; have hcz20_2 : w19.cell? ⟨gb275, 2, none⟩ = some (.int .i64 a0_2) := (blk_cell BK275.out 2).trans rfl; have hcz20_3 : w19.cell? ⟨gb275, 3, none⟩ = some (.string a0_3) := (blk_cell BK275.out 3).trans rfl; have hcz20_4 : w19.cell? ⟨gb275, 4, none⟩ = some (.int .i64 a0_4) := (blk_cell BK275.out 4).trans rfl; have hcz20_5 : w19.cell? ⟨gb275, 5, none⟩ = some (.int .i64 a0_5) := (blk_cell BK275.out 5).trans rfl; have hcz20_6 : w19.cell? ⟨gb275, 6, none⟩ = some (.int .i64 a0_6) := (blk_cell BK275.out 6).trans rfl; have hcz20_7 : w19.cell? ⟨gb275, 7, none⟩ = some (.int .i64 a0_7) := (blk_cell BK275.out 7).trans rfl; have hcz20_8 : w19.cell? ⟨gb275, 8, none⟩ = some (.int .i32 a0_8) := (blk_cell BK275.out 8).trans rfl; have hcz20_9 : w19.cell? ⟨gb275, 9, none⟩ = some (.string a0_9) := (blk_cell BK275.out 9).trans rfl; have hcz20_10 : w19.cell? ⟨gb275, 10, none⟩ = some (.int .i64 a0_10) := (blk_cell BK275.out 10).trans rfl; have hcz20_11 : w19.cell? ⟨gb275, 11, none⟩ = some (.slice A0_11 l0_11.length c0_11) := (blk_cell BK275.out 11).trans rfl; have hcz20_12 : w19.cell? ⟨gb275, 12, none⟩ = some (.int .u32 a0_12) := (blk_cell BK275.out 12).trans rfl; have hcz20_13 : w19.cell? ⟨gb275, 13, none⟩ = some (.bool a0_13) := (blk_cell BK275.out 13).trans rfl; have hcz20_14 : w19.cell? ⟨gb275, 14, none⟩ = some (.bool a0_14) := (blk_cell BK275.out 14).trans rfl; have hfz20_0 := blk_frozen BK275.out 0; have hfz20_1 := blk_frozen BK275.out 1; have hfz20_2 := blk_frozen BK275.out 2; have hfz20_3 := blk_frozen BK275.out 3; have hfz20_4 := blk_frozen BK275.out 4; have hfz20_5 := blk_frozen BK275.out 5; have hfz20_6 := blk_frozen BK275.out 6; have hfz20_7 := blk_frozen BK275.out 7; have hfz20_8 := blk_frozen BK275.out 8; have hfz20_9 := blk_frozen BK275.out 9; have hfz20_10 := blk_frozen BK275.out 10; have hfz20_11 := blk_frozen BK275.out 11; have hfz20_12 := blk_frozen BK275.out 12; have hfz20_13 := blk_frozen BK275.out 13; have hfz20_14 := blk_frozen BK275.out 14) | ((with_reducible refine gate_callee (f := 11) rfl ?_); refine goesL_ (some 24) rfl rfl Try.func11 (by kernel_rfl) rfl #[.agg #[.int .i64 a0_0, .int .i64 a0_1, .int .i64 a0_2, .string a0_3, .int .i64 a0_4, .int .i64 a0_5, .int .i64 a0_6, .int .i64 a0_7, .int .i32 a0_8, .string a0_9, .int .i64 a0_10, .slice A0_11 l0_11.length c0_11, .int .u32 a0_12, .bool a0_13, .bool a0_14], .int .i64 a1] rfl (by (try simp only [List.map_toArray, List.map_cons, List.map_nil]); first | done | rfl | (simp only [List.length_drop, List.length_take]; rfl)) ?_; (with_reducible refine (typecaseref18_Next.calls k a0_0 a0_1 a0_2 a0_3 a0_4 a0_5 a0_6 a0_7 a0_8 a0_9 a0_10 _ _ l0_11 a0_12 a0_13 a0_14 a1 t279 t280 _ ?side1 ?side2 A10.out).mono ?_); (case side1 => repeat (first | exact (Kd.C_below HR0_11.out HB.out) | (with_reducible refine Kd.C_alloc ?_ _) | (with_reducible refine Kd.C_drewN ?_ _) | (with_reducible refine Kd.C_drew ?_))); (case side2 => exact HC0_11.out); rintro e w21 ⟨rfl, hb⟩; refine ⟨_, rfl, ?_⟩; have n0_ := Aside0.mk (blk_below (g := gb275) (o := .cells #[.int .i64 a0_0, .int .i64 a0_1, .int .i64 a0_2, .string a0_3, .int .i64 a0_4, .int .i64 a0_5, .int .i64 a0_6, .int .i64 a0_7, .int .i32 a0_8, .string a0_9, .int .i64 a0_10, .slice A0_11 l0_11.length c0_11, .int .u32 a0_12, .bool a0_13, .bool a0_14] 27 (0, 0)) (by (with_reducible repeat (first | refine blk_drewN ?_ _ | refine blk_drew ?_ | refine blk_alloc ?_ _)); exact BK275.out) hb); have n1_ := Aside0.mk (below_step (by repeat (first | (with_reducible first | exact HB.out | apply below_alloc | apply pw_below_drewN | apply below_drew1 | refine below_set ?_ GE275.out) | exact HB.out)) hb); clear BK275; clear HB; have BK275 := n0_; have HB := n1_; clear n0_ n1_; (try clear hb); (try clear hb2); (try clear hk); (try clear hi)))
            have n0_ := Aside0.mk (blk_drew BK275.out)
            have n1_ := Aside0.mk (below_drew1 HB.out)
            clear BK275
            clear HB
            have BK275 := n0_
            have HB := n1_
            clear n0_ n1_
            refine start_ (n := 16) (S := fun w' => w'.cell? ⟨gb275, 0, none⟩ = some (.int .i64 a0_0) ∧ w'.cell? ⟨gb275, 1, none⟩ = some (.int .i64 a0_1) ∧ w'.cell? ⟨gb275, 2, none⟩ = some (.int .i64 a0_2) ∧ w'.cell? ⟨gb275, 3, none⟩ = some (.string a0_3) ∧ w'.cell? ⟨gb275, 4, none⟩ = some (.int .i64 a0_4) ∧ w'.cell? ⟨gb275, 5, none⟩ = some (.int .i64 a0_5) ∧ w'.cell? ⟨gb275, 6, none⟩ = some (.int .i64 a0_6) ∧ w'.cell? ⟨gb275, 7, none⟩ = some (.int .i64 a0_7) ∧ w'.cell? ⟨gb275, 8, none⟩ = some (.int .i32 a0_8) ∧ w'.cell? ⟨gb275, 9, none⟩ = some (.string a0_9) ∧ w'.cell? ⟨gb275, 10, none⟩ = some (.int .i64 a0_10) ∧ w'.cell? ⟨gb275, 11, none⟩ = some (.slice A0_11 l0_11.length c0_11) ∧ w'.cell? ⟨gb275, 12, none⟩ = some (.int .u32 a0_12) ∧ w'.cell? ⟨gb275, 13, none⟩ = some (.bool a0_13) ∧ w'.cell? ⟨gb275, 14, none⟩ = some (.bool a0_14)) (ds := []) #[false, false, false, false, false, false, false, false, false, false, false, false, false, false, false, false] (by kernel_rfl) rfl rfl ⟨(blk_cell BK275.out 0).trans rfl, (blk_cell BK275.out 1).trans rfl, (blk_cell BK275.out 2).trans rfl, (blk_cell BK275.out 3).trans rfl, (blk_cell BK275.out 4).trans rfl, (blk_cell BK275.out 5).trans rfl, (blk_cell BK275.out 6).trans rfl, (blk_cell BK275.out 7).trans rfl, (blk_cell BK275.out 8).trans rfl, (blk_cell BK275.out 9).trans rfl, (blk_cell BK275.out 10).trans rfl, (blk_cell BK275.out 11).trans rfl, (blk_cell BK275.out 12).trans rfl, (blk_cell BK275.out 13).trans rfl, (blk_cell BK275.out 14).trans rfl⟩ (fun hHeld => ?_); refine with_tabW typecaselaw18_SpanClasses.tab7 typecaselaw18_SpanClasses.bits7 (fun HT_ HW_ => ?_)
            generalize w21.drew = w22 at BK275 HB hHeld ⊢
            refine take_ (i := 0) (N := some 27) (v := ?_) (a' := ?_) #[true, false, false, false, false, false, false, false, false, false, false, false, false, false, false, false] rfl rfl (take_ofW HT_.out HW_.out (by kernel_rfl)) (fun _ _ _ h => h) (Or.inl ⟨by rfl, ?_⟩) hHeld ?_ ?_
            rotate_left
            · rintro w' ⟨s0, s1, s2, s3, s4, s5, s6, s7, s8, s9, s10, s11, s12, s13, s14⟩
              go_simp
              with_reducible rfl
            rotate_left
            · simp only [Act.put, List.setIfInBounds_toArray, List.set_cons_zero, List.set_cons_succ, i64_w, i32_w]
              rfl
            refine take_ (i := 2) (N := some 29) (v := ?_) (a' := ?_) #[true, false, true, false, false, false, false, false, false, false, false, false, false, false, false, false] rfl rfl (take_ofW HT_.out HW_.out (by kernel_rfl)) (fun _ _ _ h => h) (Or.inl ⟨by rfl, ?_⟩) hHeld ?_ ?_
            rotate_left
            · rintro w' ⟨s0, s1, s2, s3, s4, s5, s6, s7, s8, s9, s10, s11, s12, s13, s14⟩
              go_simp
              with_reducible rfl
            rotate_left
            · simp only [Act.put, List.setIfInBounds_toArray, List.set_cons_zero, List.set_cons_succ, i64_w, i32_w]
              rfl
            refine one_ (i := 1) (N := some 28) #[true, true, true, false, false, false, false, false, false, false, false, false, false, false, false, false] rfl rfl (one_of HT_.out (by kernel_rfl)) (by decide) (fun K hK => ?_)
            refine goes_ Try.func13 (by kernel_rfl) rfl #[.agg #[.int .i64 a0_0, .int .i64 a0_1, .int .i64 a0_2, .string a0_3, .int .i64 a0_4, .int .i64 a0_5, .int .i64 a0_6, .int .i64 a0_7, .int .i32 a0_8, .string a0_9, .int .i64 a0_10, .slice A0_11 l0_11.length c0_11, .int .u32 a0_12, .bool a0_13, .bool a0_14]] (by rfl) rfl rfl (by (try simp only [List.map_toArray, List.map_cons, List.map_nil]); first | done | rfl | (simp only [List.length_drop, List.length_take]; rfl)) ?_
            with_reducible refine (span_Classes.calls k a0_0 a0_1 a0_2 a0_3 a0_4 a0_5 a0_6 a0_7 a0_8 a0_9 a0_10 _ _ l0_11 a0_12 a0_13 a0_14 t281 _ ?side1 ?side2 A11.out).mono ?_
            (case side1 => repeat (first | exact (Kd.C_below HR0_11.out HB.out) | (with_reducible refine Kd.C_alloc ?_ _) | (with_reducible refine Kd.C_drewN ?_ _) | (with_reducible refine Kd.C_drew ?_)))
            (case side2 => exact HC0_11.out)
            rintro e w23 ⟨v282, rfl, ho0, hb⟩
            refine ⟨_, rfl, ?_⟩
            have n0_ := Aside0.mk (Kd.R_lower ho0 (below_size (by repeat (first | (with_reducible first | exact HB.out | apply below_alloc | apply pw_below_drewN | apply below_drew1 | refine below_set ?_ GE275.out) | exact HB.out))))
            have n1_ := Aside0.mk (blk_below (g := gb275) (o := .cells #[.int .i64 a0_0, .int .i64 a0_1, .int .i64 a0_2, .string a0_3, .int .i64 a0_4, .int .i64 a0_5, .int .i64 a0_6, .int .i64 a0_7, .int .i32 a0_8, .string a0_9, .int .i64 a0_10, .slice A0_11 l0_11.length c0_11, .int .u32 a0_12, .bool a0_13, .bool a0_14] 27 (0, 0)) (by (with_reducible repeat (first | refine blk_drewN ?_ _ | refine blk_drew ?_ | refine blk_alloc ?_ _)); exact BK275.out) hb)
            have n2_ := Aside0.mk (below_step (by repeat (first | (with_reducible first | exact HB.out | apply below_alloc | apply pw_below_drewN | apply below_drew1 | refine below_set ?_ GE275.out) | exact HB.out)) hb)
            clear BK275
            clear HB
            have HO283 := n0_
            have BK275 := n1_
            have HB := n2_
            clear n0_ n1_ n2_
            (try clear hb)
            (try clear hb2)
            (try clear hk)
            (try clear hi)
            (try clear ho0)
            refine hK.out _ _ ⟨(blk_cell BK275.out 0).trans rfl, (blk_cell BK275.out 1).trans rfl, (blk_cell BK275.out 2).trans rfl, (blk_cell BK275.out 3).trans rfl, (blk_cell BK275.out 4).trans rfl, (blk_cell BK275.out 5).trans rfl, (blk_cell BK275.out 6).trans rfl, (blk_cell BK275.out 7).trans rfl, (blk_cell BK275.out 8).trans rfl, (blk_cell BK275.out 9).trans rfl, (blk_cell BK275.out 10).trans rfl, (blk_cell BK275.out 11).trans rfl, (blk_cell BK275.out 12).trans rfl, (blk_cell BK275.out 13).trans rfl, (blk_cell BK275.out 14).trans rfl⟩ (fun hHeld => ?_)
            clear hK K
            refine norm_ (a' := ?_) ?_ ?_
            rotate_left
            · show Act.put _ (some 28) _ = _
              simp only [Act.put, List.setIfInBounds_toArray, List.set_cons_zero, List.set_cons_succ, i64_w, i32_w]
              rfl
            refine one_ (i := 3) (N := some 30) #[true, true, true, true, false, false, false, false, false, false, false, false, false, false, false, false] rfl rfl (one_of HT_.out (by kernel_rfl)) (by decide) (fun K hK => ?_)
            refine goes_ Try.func14 (by kernel_rfl) rfl #[.agg #[.int .i64 a0_0, .int .i64 a0_1, .int .i64 a0_2, .string a0_3, .int .i64 a0_4, .int .i64 a0_5, .int .i64 a0_6, .int .i64 a0_7, .int .i32 a0_8, .string a0_9, .int .i64 a0_10, .slice A0_11 l0_11.length c0_11, .int .u32 a0_12, .bool a0_13, .bool a0_14]] (by rfl) rfl rfl (by (try simp only [List.map_toArray, List.map_cons, List.map_nil]); first | done | rfl | (simp only [List.length_drop, List.length_take]; rfl)) ?_
            with_reducible refine (typecaseref18_Classes.calls k a0_0 a0_1 a0_2 a0_3 a0_4 a0_5 a0_6 a0_7 a0_8 a0_9 a0_10 _ _ l0_11 a0_12 a0_13 a0_14 t284 _ ?side1 ?side2 A12.out).mono ?_
            (case side1 => repeat (first | exact (Kd.C_below HR0_11.out HB.out) | (with_reducible refine Kd.C_alloc ?_ _) | (with_reducible refine Kd.C_drewN ?_ _) | (with_reducible refine Kd.C_drew ?_)))
            (case side2 => exact HC0_11.out)
            rintro e w24 ⟨v285, rfl, ho0, hb⟩
            refine ⟨_, rfl, ?_⟩
            have n0_ := Aside0.mk (Kd.R_elder' (by (with_reducible repeat (first | apply Kd.R_alloc | apply Kd.R_drewN | apply Kd.R_drew)); exact HO283.out) (Kd.R_base ho0) hb)
            have n1_ := Aside0.mk (Kd.R_lower (Kd.R_new' ho0 (Kd.R_lt (by (with_reducible repeat (first | apply Kd.R_alloc | apply Kd.R_drewN | apply Kd.R_drew)); exact HO283.out))) (below_size (by repeat (first | (with_reducible first | exact HB.out | apply below_alloc | apply pw_below_drewN | apply below_drew1 | refine below_set ?_ GE275.out) | exact HB.out))))
            have n2_ := Aside0.mk (blk_below (g := gb275) (o := .cells #[.int .i64 a0_0, .int .i64 a0_1, .int .i64 a0_2, .string a0_3, .int .i64 a0_4, .int .i64 a0_5, .int .i64 a0_6, .int .i64 a0_7, .int .i32 a0_8, .string a0_9, .int .i64 a0_10, .slice A0_11 l0_11.length c0_11, .int .u32 a0_12, .bool a0_13, .bool a0_14] 27 (0, 0)) (by (with_reducible repeat (first | refine blk_drewN ?_ _ | refine blk_drew ?_ | refine blk_alloc ?_ _)); exact BK275.out) hb)
            have n3_ := Aside0.mk (below_step (by repeat (first | (with_reducible first | exact HB.out | apply below_alloc | apply pw_below_drewN | apply below_drew1 | refine below_set ?_ GE275.out) | exact HB.out)) hb)
            clear HO283
            clear BK275
            clear HB
            have HO283 := n0_
            have HO286 := n1_
            have BK275 := n2_
            have HB := n3_
            clear n0_ n1_ n2_ n3_
            (try clear hb)
            (try clear hb2)
            (try clear hk)
            (try clear hi)
            (try clear ho0)
            obtain ⟨Ao25, co25, eo25⟩ := Kd.R_slice HO283.out
            (first | subst eo25 | (injection eo25 with f1_ f2_ f3_; have f4_ := f1_.symm; have f5_ := f3_.symm; clear f1_ f2_ f3_; subst f4_; subst f5_))
            obtain ⟨Ao26, co26, eo26⟩ := Kd.R_slice HO286.out
            (first | subst eo26 | (injection eo26 with f1_ f2_ f3_; have f4_ := f1_.symm; have f5_ := f3_.symm; clear f1_ f2_ f3_; subst f4_; subst f5_))
            refine hK.out _ _ ⟨(blk_cell BK275.out 0).trans rfl, (blk_cell BK275.out 1).trans rfl, (blk_cell BK275.out 2).trans rfl, (blk_cell BK275.out 3).trans rfl, (blk_cell BK275.out 4).trans rfl, (blk_cell BK275.out 5).trans rfl, (blk_cell BK275.out 6).trans rfl, (blk_cell BK275.out 7).trans rfl, (blk_cell BK275.out 8).trans rfl, (blk_cell BK275.out 9).trans rfl, (blk_cell BK275.out 10).trans rfl, (blk_cell BK275.out 11).trans rfl, (blk_cell BK275.out 12).trans rfl, (blk_cell BK275.out 13).trans rfl, (blk_cell BK275.out 14).trans rfl⟩ (fun hHeld => ?_)
            clear hK K
            refine norm_ (a' := ?_) ?_ ?_
            rotate_left
            · show Act.put _ (some 30) _ = _
              simp only [Act.put, List.setIfInBounds_toArray, List.set_cons_zero, List.set_cons_succ, i64_w, i32_w]
              rfl
            refine one_ (i := 4) (N := some 31) #[true, true, true, true, true, false, false, false, false, false, false, false, false, false, false, false] rfl rfl (one_of HT_.out (by kernel_rfl)) (by decide) (fun K hK => ?_)
            refine goes_ Try.func12 (by kernel_rfl) rfl #[.slice Ao25 t281.length co25, .slice Ao26 t284.length co26] (by rfl) rfl rfl (by (try simp only [List.map_toArray, List.map_cons, List.map_nil]); first | done | rfl | (simp only [List.length_drop, List.length_take]; rfl)) ?_
            with_reducible refine (typecaselaw18_ints.calls k _ _ t281 _ _ t284 true _ ?side1 ?side2 ?side3 ?side4 A13.out).mono ?_
            (case side1 => repeat (first | exact (Kd.R_reads' HO283.out).2.2 | (with_reducible refine Kd.C_alloc ?_ _) | (with_reducible refine Kd.C_drewN ?_ _) | (with_reducible refine Kd.C_drew ?_)))
            (case side2 => exact (Kd.R_reads' HO283.out).2.1)
            (case side3 => repeat (first | exact (Kd.R_reads' HO286.out).2.2 | (with_reducible refine Kd.C_alloc ?_ _) | (with_reducible refine Kd.C_drewN ?_ _) | (with_reducible refine Kd.C_drew ?_)))
            (case side4 => exact (Kd.R_reads' HO286.out).2.1)
            rintro e w' ⟨rfl, ⟨nd, rfl⟩⟩
            refine ⟨_, rfl, ?_⟩
            refine hK.out _ _ ⟨(blk_cell BK275.out 0).trans rfl, (blk_cell BK275.out 1).trans rfl, (blk_cell BK275.out 2).trans rfl, (blk_cell BK275.out 3).trans rfl, (blk_cell BK275.out 4).trans rfl, (blk_cell BK275.out 5).trans rfl, (blk_cell BK275.out 6).trans rfl, (blk_cell BK275.out 7).trans rfl, (blk_cell BK275.out 8).trans rfl, (blk_cell BK275.out 9).trans rfl, (blk_cell BK275.out 10).trans rfl, (blk_cell BK275.out 11).trans rfl, (blk_cell BK275.out 12).trans rfl, (blk_cell BK275.out 13).trans rfl, (blk_cell BK275.out 14).trans rfl⟩ (fun hHeld => ?_)
            clear hK K
            refine norm_ (a' := ?_) ?_ ?_
            rotate_left
            · show Act.put _ (some 31) _ = _
              simp only [Act.put, List.setIfInBounds_toArray, List.set_cons_zero, List.set_cons_succ, i64_w, i32_w]
              rfl
            refine pure_ (i := 5) (N := some 32) (v := ?_) (a' := ?_) #[true, true, true, true, true, true, false, false, false, false, false, false, false, false, false, false] rfl rfl (any_of HT_.out (by kernel_rfl)) (fun _ _ _ h => h) (Or.inl ⟨by rfl, ?_⟩) ?_ ?_
            rotate_left
            · intro w'
              go_simp
              with_reducible rfl
            rotate_left
            · simp only [Act.put, List.setIfInBounds_toArray, List.set_cons_zero, List.set_cons_succ, i64_w, i32_w]
              rfl
            refine pure_ (i := 6) (N := some 33) (v := ?_) (a' := ?_) #[true, true, true, true, true, true, true, false, false, false, false, false, false, false, false, false] rfl rfl (any_of HT_.out (by kernel_rfl)) (fun _ _ _ h => h) (Or.inl ⟨by rfl, ?_⟩) ?_ ?_
            rotate_left
            · intro w'
              go_simp
              with_reducible rfl
            rotate_left
            · simp only [Act.put, List.setIfInBounds_toArray, List.set_cons_zero, List.set_cons_succ, i64_w, i32_w]
              rfl
            refine pure_ (i := 7) (N := some 34) (v := ?_) (a' := ?_) #[true, true, true, true, true, true, true, true, false, false, false, false, false, false, false, false] rfl rfl (any_of HT_.out (by kernel_rfl)) (fun _ _ _ h => h) (Or.inl ⟨by rfl, ?_⟩) ?_ ?_
            rotate_left
            · intro w'
              go_simp
              with_reducible rfl
            rotate_left
            · simp only [Act.put, List.setIfInBounds_toArray, List.set_cons_zero, List.set_cons_succ, i64_w, i32_w]
              rfl
            refine pure_ (i := 8) (N := some 35) (v := ?_) (a' := ?_) #[true, true, true, true, true, true, true, true, true, false, false, false, false, false, false, false] rfl rfl (any_of HT_.out (by kernel_rfl)) (fun _ _ _ h => h) (Or.inl ⟨by rfl, ?_⟩) ?_ ?_
            rotate_left
            · intro w'
              go_simp
              with_reducible rfl
            rotate_left
            · simp only [Act.put, List.setIfInBounds_toArray, List.set_cons_zero, List.set_cons_succ, i64_w, i32_w]
              rfl
            refine pure_ (i := 9) (N := some 36) (v := ?_) (a' := ?_) #[true, true, true, true, true, true, true, true, true, true, false, false, false, false, false, false] rfl rfl (any_of HT_.out (by kernel_rfl)) (fun _ _ _ h => h) (Or.inl ⟨by rfl, ?_⟩) ?_ ?_
            rotate_left
            · intro w'
              go_simp
              with_reducible rfl
            rotate_left
            · simp only [Act.put, List.setIfInBounds_toArray, List.set_cons_zero, List.set_cons_succ, i64_w, i32_w]
              rfl
            refine pure_ (i := 10) (N := some 37) (v := ?_) (a' := ?_) #[true, true, true, true, true, true, true, true, true, true, true, false, false, false, false, false] rfl rfl (any_of HT_.out (by kernel_rfl)) (fun _ _ _ h => h) (Or.inl ⟨by rfl, ?_⟩) ?_ ?_
            rotate_left
            · intro w'
              go_simp
              with_reducible rfl
            rotate_left
            · simp only [Act.put, List.setIfInBounds_toArray, List.set_cons_zero, List.set_cons_succ, i64_w, i32_w]
              rfl
            refine pure_ (i := 11) (N := some 38) (v := ?_) (a' := ?_) #[true, true, true, true, true, true, true, true, true, true, true, true, false, false, false, false] rfl rfl (any_of HT_.out (by kernel_rfl)) (fun _ _ _ h => h) (Or.inl ⟨by rfl, ?_⟩) ?_ ?_
            rotate_left
            · intro w'
              go_simp
              with_reducible rfl
            rotate_left
            · simp only [Act.put, List.setIfInBounds_toArray, List.set_cons_zero, List.set_cons_succ, i64_w, i32_w]
              rfl
            refine pure_ (i := 12) (N := some 39) (v := ?_) (a' := ?_) #[true, true, true, true, true, true, true, true, true, true, true, true, true, false, false, false] rfl rfl (any_of HT_.out (by kernel_rfl)) (fun _ _ _ h => h) (Or.inl ⟨by rfl, ?_⟩) ?_ ?_
            rotate_left
            · intro w'
              go_simp
              with_reducible rfl
            rotate_left
            · simp only [Act.put, List.setIfInBounds_toArray, List.set_cons_zero, List.set_cons_succ, i64_w, i32_w]
              rfl
            refine pure_ (i := 13) (N := some 40) (v := ?_) (a' := ?_) #[true, true, true, true, true, true, true, true, true, true, true, true, true, true, false, false] rfl rfl (any_of HT_.out (by kernel_rfl)) (fun _ _ _ h => h) (Or.inl ⟨by rfl, ?_⟩) ?_ ?_
            rotate_left
            · intro w'
              go_simp
              with_reducible rfl
            rotate_left
            · simp only [Act.put, List.setIfInBounds_toArray, List.set_cons_zero, List.set_cons_succ, i64_w, i32_w]
              rfl
            refine pure_ (i := 14) (N := some 41) (v := ?_) (a' := ?_) #[true, true, true, true, true, true, true, true, true, true, true, true, true, true, true, false] rfl rfl (any_of HT_.out (by kernel_rfl)) (fun _ _ _ h => h) (Or.inl ⟨by rfl, ?_⟩) ?_ ?_
            rotate_left
            · intro w'
              go_simp
              with_reducible rfl
            rotate_left
            · simp only [Act.put, List.setIfInBounds_toArray, List.set_cons_zero, List.set_cons_succ, i64_w, i32_w]
              rfl
            refine pure_ (i := 15) (N := some 4) (v := ?_) (a' := ?_) #[true, true, true, true, true, true, true, true, true, true, true, true, true, true, true, true] rfl rfl (any_of HT_.out (by kernel_rfl)) (fun _ _ _ h => h) (Or.inl ⟨by rfl, ?_⟩) ?_ ?_
            rotate_left
            · intro w'
              go_simp
              with_reducible rfl
            rotate_left
            · simp only [Act.put, List.setIfInBounds_toArray, List.set_cons_zero, List.set_cons_succ, i64_w, i32_w]
              rfl
            refine done_ (done_of HT_.out (by kernel_rfl)) ?_
            try go_wp2
            go_ret
            exact ⟨by first | rfl | (simp [errW_none, errW_some] <;> rfl) | (simp [*, errW_none, errW_some] <;> rfl), by repeat (first | (with_reducible first | exact HB.out | apply below_alloc | apply pw_below_drewN | apply below_drew1 | refine below_set ?_ GE275.out) | exact HB.out)⟩
        · rw [if_neg c15] at H
          have c15b0 : (t277 == t279) = false := beq_eq_false_iff_ne.mpr c15
          have c15b1 : (t277 != t279) = true := bne_iff_ne.mpr c15
          obtain rfl := Option.some.inj H
          as_aux_lemma =>
            go_enter Try.func4, Try.ntmps4
            try go_wp2_with (first | ((with_reducible refine gate_dst (N := 2) rfl ?_); refine box_event ?hg (N := 2) ?hd (cs := #[.int .i64 a0_0, .int .i64 a0_1, .int .i64 a0_2, .string a0_3, .int .i64 a0_4, .int .i64 a0_5, .int .i64 a0_6, .int .i64 a0_7, .int .i32 a0_8, .string a0_9, .int .i64 a0_10, .slice A0_11 l0_11.length c0_11, .int .u32 a0_12, .bool a0_13, .bool a0_14]) (t := 27) ?hr ?_; (case hd => rfl); (case hg => rfl); (case hr => first | (go_simp; done) | (go_simp; rfl)); intro gb275 hg w27 hbox hb; have n0_ := Aside0.mk (below_step (by repeat (first | (with_reducible first | exact HB.out | apply below_alloc | apply pw_below_drewN | apply below_drew1) | exact HB.out)) hb); have n1_ := Aside0.mk (hbox); have n2_ := Aside0.mk ((by rw [hg]; exact (below_size (by repeat (first | (with_reducible first | exact HB.out | apply below_alloc | apply pw_below_drewN | apply below_drew1) | exact HB.out))) : w.heap.size ≤ gb275)); have n3_ := Aside0.mk ((by rw [hg]; exact (below_size (by repeat (first | (with_reducible first | exact HB.out | apply below_alloc | apply pw_below_drewN | apply below_drew1) | exact HB.out))) : w.heap.size ≤ gb275)); clear HB; have HB := n0_; have BK275 := n1_; have GW275 := n2_; have GE275 := n3_; clear n0_ n1_ n2_ n3_; clear hb hbox hg) | ((with_reducible refine gate_callee (f := 7) rfl ?_); refine goesL_ (some 9) rfl rfl Try.func7 (by kernel_rfl) rfl #[] rfl (by (try simp only [List.map_toArray, List.map_cons, List.map_nil]); first | done | rfl | (simp only [List.length_drop, List.length_take]; rfl)) ?_; (with_reducible refine (typecaselaw18_awake.calls k  true _ A3.out).mono ?_); rintro e w28 ⟨rfl, hb⟩; refine ⟨_, rfl, ?_⟩; have n0_ := Aside0.mk (blk_below (g := gb275) (o := .cells #[.int .i64 a0_0, .int .i64 a0_1, .int .i64 a0_2, .string a0_3, .int .i64 a0_4, .int .i64 a0_5, .int .i64 a0_6, .int .i64 a0_7, .int .i32 a0_8, .string a0_9, .int .i64 a0_10, .slice A0_11 l0_11.length c0_11, .int .u32 a0_12, .bool a0_13, .bool a0_14] 27 (0, 0)) (by (with_reducible repeat (first | refine blk_drewN ?_ _ | refine blk_drew ?_ | refine blk_alloc ?_ _)); exact BK275.out) hb); have n1_ := Aside0.mk (below_step (by repeat (first | (with_reducible first | exact HB.out | apply below_alloc | apply pw_below_drewN | apply below_drew1 | refine below_set ?_ GE275.out) | exact HB.out)) hb); clear BK275; clear HB; have BK275 := n0_; have HB := n1_; clear n0_ n1_; (try clear hb); (try clear hb2); (try clear hk); (try clear hi); have hcz29_0 : w28.cell? ⟨gb275, 0, none⟩ = some (.int .i64 a0_0) := (blk_cell BK275.out 0).trans rfl; have hcz29_1 : w28.cell? ⟨gb275, 1, none⟩ = some (.int .i64 a0_1) := (blk_cell BK275.out 1).trans rfl; have hcz29_2 : w28.cell? ⟨gb275, 2, none⟩ = some (.int .i64 a0_2) := (blk_cell BK275.out 2).trans rfl; have hcz29_3 : w28.cell? ⟨gb275, 3, none⟩ = some (.string a0_3) := (blk_cell BK275.out 3).trans rfl; have hcz29_4 : w28.cell? ⟨gb275, 4, none⟩ = some (.int .i64 a0_4) := (blk_cell BK275.out 4).trans rfl; have hcz29_5 : w28.cell? ⟨gb275, 5, none⟩ = some (.int .i64 a0_5) := (blk_cell BK275.out 5).trans rfl; have hcz29_6 : w28.cell? ⟨gb275, 6, none⟩ = some (.int .i64 a0_6) := (blk_cell BK275.out 6).trans rfl; have hcz29_7 : w28.cell? ⟨gb275, 7, none⟩ = some (.int .i64 a0_7) := (blk_cell BK275.out 7).trans rfl; have hcz29_8 : w28.cell? ⟨gb275, 8, none⟩ = some (.int .i32 a0_8) := (blk_cell BK275.out 8).trans rfl; have hcz29_9 : w28.cell? ⟨gb275, 9, none⟩ = some (.string a0_9) := (blk_cell BK275.out 9).trans rfl; have hcz29_10 : w28.cell? ⟨gb275, 10, none⟩ = some (.int .i64 a0_10) := (blk_cell BK275.out 10).trans rfl; have hcz29_11 : w28.cell? ⟨gb275, 11, none⟩ = some (.slice A0_11 l0_11.length c0_11) := (blk_cell BK275.out 11).trans rfl; have hcz29_12 : w28.cell? ⟨gb275, 12, none⟩ = some (.int .u32 a0_12) := (blk_cell BK275.out 12).trans rfl; have hcz29_13 : w28.cell? ⟨gb275, 13, none⟩ = some (.bool a0_13) := (blk_cell BK275.out 13).trans rfl; have hcz29_14 : w28.cell? ⟨gb275, 14, none⟩ = some (.bool a0_14) := (blk_cell BK275.out 14).trans rfl; have hfz29_0 := blk_frozen BK275.out 0; have hfz29_1 := blk_frozen BK275.out 1; have hfz29_2 := blk_frozen BK275.out 2; have hfz29_3 := blk_frozen BK275.out 3; have hfz29_4 := blk_frozen BK275.out 4; have hfz29_5 := blk_frozen BK275.out 5; have hfz29_6 := blk_frozen BK275.out 6; have hfz29_7 := blk_frozen BK275.out 7; have hfz29_8 := blk_frozen BK275.out 8; have hfz29_9 := blk_frozen BK275.out 9; have hfz29_10 := blk_frozen BK275.out 10; have hfz29_11 := blk_frozen BK275.out 11; have hfz29_12 := blk_frozen BK275.out 12; have hfz29_13 := blk_frozen BK275.out 13; have hfz29_14 := blk_frozen BK275.out 14) | ((with_reducible refine gate_callee (f := 10) rfl ?_); refine goesL_ (some 18) rfl rfl Try.func10 (by kernel_rfl) rfl #[.agg #[.int .i64 a0_0, .int .i64 a0_1, .int .i64 a0_2, .string a0_3, .int .i64 a0_4, .int .i64 a0_5, .int .i64 a0_6, .int .i64 a0_7, .int .i32 a0_8, .string a0_9, .int .i64 a0_10, .slice A0_11 l0_11.length c0_11, .int .u32 a0_12, .bool a0_13, .bool a0_14], .int .i64 a1] rfl (by (try simp only [List.map_toArray, List.map_cons, List.map_nil]); first | done | rfl | (simp only [List.length_drop, List.length_take]; rfl)) ?_; (with_reducible refine (span_Next.calls k a0_0 a0_1 a0_2 a0_3 a0_4 a0_5 a0_6 a0_7 a0_8 a0_9 a0_10 _ _ l0_11 a0_12 a0_13 a0_14 a1 t277 t278 _ ?side1 ?side2 A9.out).mono ?_); (case side1 => repeat (first | exact (Kd.C_below HR0_11.out HB.out) | (with_reducible refine Kd.C_alloc ?_ _) | (with_reducible refine Kd.C_drewN ?_ _) | (with_reducible refine Kd.C_drew ?_))); (case side2 => exact HC0_11.out); rintro e w30 ⟨rfl, hb⟩; refine ⟨_, rfl, ?_⟩; have n0_ := Aside0.mk (blk_below (g := gb275) (o := .cells #[.int .i64 a0_0, .int .i64 a0_1, .int .i64 a0_2, .string a0_3, .int .i64 a0_4, .int .i64 a0_5, .int .i64 a0_6, .int .i64 a0_7, .int .i32 a0_8, .string a0_9, .int .i64 a0_10, .slice A0_11 l0_11.length c0_11, .int .u32 a0_12, .bool a0_13, .bool a0_14] 27 (0, 0)) (by (with_reducible repeat (first | refine blk_drewN ?_ _ | refine blk_drew ?_ | refine blk_alloc ?_ _)); exact BK275.out) hb); have n1_ := Aside0.mk (below_step (by repeat (first | (with_reducible first | exact HB.out | apply below_alloc | apply pw_below_drewN | apply below_drew1 | refine below_set ?_ GE275.out) | exact HB.out)) hb); clear BK275; clear HB; have BK275 := n0_; have HB := n1_; clear n0_ n1_; (try clear hb); (try clear hb2); (try clear hk); (try clear hi); have hcz31_0 : w30.cell? ⟨gb275, 0, none⟩ = some (.int .i64 a0_0) := (blk_cell BK275.out 0).trans rfl; have hcz31_1 : w30.cell? ⟨gb275, 1, none⟩ = some (.int .i64 a0_1) := (blk_cell BK275.out 1).trans rfl; have hcz31_2 : w30.cell? ⟨gb275, 2, none⟩ = some (.int .i64 a0_2) := (blk_cell BK275.out 2).trans rfl; have hcz31_3 : w30.cell? ⟨gb275, 3, none⟩ = some (.string a0_3) := (blk_cell BK275.out 3).trans rfl; have hcz31_4 : w30.cell? ⟨gb275, 4, none⟩ = some (.int .i64 a0_4) := (blk_cell BK275.out 4).trans rfl; have hcz31_5 : w30.cell? ⟨gb275, 5, none⟩ = some (.int .i64 a0_5) := (blk_cell BK275.out 5).trans rfl; have hcz31_6 : w30.cell? ⟨gb275, 6, none⟩ = some (.int .i64 a0_6) := (blk_cell BK275.out 6).trans rfl; have hcz31_7 : w30.cell? ⟨gb275, 7, none⟩ = some (.int .i64 a0_7) := (blk_cell BK275.out 7).trans rfl; have hcz31_8 : w30.cell? ⟨gb275, 8, none⟩ = some (.int .i32 a0_8) := (blk_cell BK275.out 8).trans rfl; have hcz31_9 : w30.cell? ⟨gb275, 9, none⟩ = some (.string a0_9) := (blk_cell BK275.out 9).trans rfl; have hcz31_10 : w30.cell? ⟨gb275, 10, none⟩ = some (.int .i64 a0_10) := (blk_cell BK275.out 10).trans rfl; have hcz31_11 : w30.cell? ⟨gb275, 11, none⟩ = some (.slice A0_11 l0_11.length c0_11) := (blk_cell BK275.out 11).trans rfl; have hcz31_12 : w30.cell? ⟨gb275, 12, none⟩ = some (.int .u32 a0_12) := (blk_cell BK275.out 12).trans rfl; have hcz31_13 : w30.cell? ⟨gb275, 13, none⟩ = some (.bool a0_13) := (blk_cell BK275.out 13).trans rfl; have hcz31_14 : w30.cell? ⟨gb275, 14, none⟩ = some (.bool a0_14) := (blk_cell BK275.out 14).trans rfl; have hfz31_0 := blk_frozen BK275.out 0; have hfz31_1 := blk_frozen BK275.out 1; have hfz31_2 := blk_frozen BK275.out 2; have hfz31_3 := blk_frozen BK275.out 3; have hfz31_4 := blk_frozen BK275.out 4; have hfz31_5 := blk_frozen BK275.out 5; have hfz31_6 := blk_frozen BK275.out 6; have hfz31_7 := blk_frozen BK275.out 7; have hfz31_8 := blk_frozen BK275.out 8; have hfz31_9 := blk_frozen BK275.out 9; have hfz31_10 := blk_frozen BK275.out 10; have hfz31_11 := blk_frozen BK275.out 11; have hfz31_12 := blk_frozen BK275.out 12; have hfz31_13 := blk_frozen BK275.out 13; have hfz31_14 := blk_frozen BK275.out 14) | ((with_reducible refine gate_callee (f := 11) rfl ?_); refine goesL_ (some 24) rfl rfl Try.func11 (by kernel_rfl) rfl #[.agg #[.int .i64 a0_0, .int .i64 a0_1, .int .i64 a0_2, .string a0_3, .int .i64 a0_4, .int .i64 a0_5, .int .i64 a0_6, .int .i64 a0_7, .int .i32 a0_8, .string a0_9, .int .i64 a0_10, .slice A0_11 l0_11.length c0_11, .int .u32 a0_12, .bool a0_13, .bool a0_14], .int .i64 a1] rfl (by (try simp only [List.map_toArray, List.map_cons, List.map_nil]); first | done | rfl | (simp only [List.length_drop, List.length_take]; rfl)) ?_; (with_reducible refine (typecaseref18_Next.calls k a0_0 a0_1 a0_2 a0_3 a0_4 a0_5 a0_6 a0_7 a0_8 a0_9 a0_10 _ _ l0_11 a0_12 a0_13 a0_14 a1 t279 t280 _ ?side1 ?side2 A10.out).mono ?_); (case side1 => repeat (first | exact (Kd.C_below HR0_11.out HB.out) | (with_reducible refine Kd.C_alloc ?_ _) | (with_reducible refine Kd.C_drewN ?_ _) | (with_reducible refine Kd.C_drew ?_))); (case side2 => exact HC0_11.out); rintro e w32 ⟨rfl, hb⟩; refine ⟨_, rfl, ?_⟩; have n0_ := Aside0.mk (blk_below (g := gb275) (o := .cells #[.int .i64 a0_0, .int .i64 a0_1, .int .i64 a0_2, .string a0_3, .int .i64 a0_4, .int .i64 a0_5, .int .i64 a0_6, .int .i64 a0_7, .int .i32 a0_8, .string a0_9, .int .i64 a0_10, .slice A0_11 l0_11.length c0_11, .int .u32 a0_12, .bool a0_13, .bool a0_14] 27 (0, 0)) (by (with_reducible repeat (first | refine blk_drewN ?_ _ | refine blk_drew ?_ | refine blk_alloc ?_ _)); exact BK275.out) hb); have n1_ := Aside0.mk (below_step (by repeat (first | (with_reducible first | exact HB.out | apply below_alloc | apply pw_below_drewN | apply below_drew1 | refine below_set ?_ GE275.out) | exact HB.out)) hb); clear BK275; clear HB; have BK275 := n0_; have HB := n1_; clear n0_ n1_; (try clear hb); (try clear hb2); (try clear hk); (try clear hi)))
            have n0_ := Aside0.mk (blk_drew BK275.out)
            have n1_ := Aside0.mk (below_drew1 HB.out)
            clear BK275
            clear HB
            have BK275 := n0_
            have HB := n1_
            clear n0_ n1_
            refine start_ (n := 16) (S := fun w' => w'.cell? ⟨gb275, 0, none⟩ = some (.int .i64 a0_0) ∧ w'.cell? ⟨gb275, 1, none⟩ = some (.int .i64 a0_1) ∧ w'.cell? ⟨gb275, 2, none⟩ = some (.int .i64 a0_2) ∧ w'.cell? ⟨gb275, 3, none⟩ = some (.string a0_3) ∧ w'.cell? ⟨gb275, 4, none⟩ = some (.int .i64 a0_4) ∧ w'.cell? ⟨gb275, 5, none⟩ = some (.int .i64 a0_5) ∧ w'.cell? ⟨gb275, 6, none⟩ = some (.int .i64 a0_6) ∧ w'.cell? ⟨gb275, 7, none⟩ = some (.int .i64 a0_7) ∧ w'.cell? ⟨gb275, 8, none⟩ = some (.int .i32 a0_8) ∧ w'.cell? ⟨gb275, 9, none⟩ = some (.string a0_9) ∧ w'.cell? ⟨gb275, 10, none⟩ = some (.int .i64 a0_10) ∧ w'.cell? ⟨gb275, 11, none⟩ = some (.slice A0_11 l0_11.length c0_11) ∧ w'.cell? ⟨gb275, 12, none⟩ = some (.int .u32 a0_12) ∧ w'.cell? ⟨gb275, 13, none⟩ = some (.bool a0_13) ∧ w'.cell? ⟨gb275, 14, none⟩ = some (.bool a0_14)) (ds := []) #[false, false, false, false, false, false, false, false, false, false, false, false, false, false, false, false] (by kernel_rfl) rfl rfl ⟨(blk_cell BK275.out 0).trans rfl, (blk_cell BK275.out 1).trans rfl, (blk_cell BK275.out 2).trans rfl, (blk_cell BK275.out 3).trans rfl, (blk_cell BK275.out 4).trans rfl, (blk_cell BK275.out 5).trans rfl, (blk_cell BK275.out 6).trans rfl, (blk_cell BK275.out 7).trans rfl, (blk_cell BK275.out 8).trans rfl, (blk_cell BK275.out 9).trans rfl, (blk_cell BK275.out 10).trans rfl, (blk_cell BK275.out 11).trans rfl, (blk_cell BK275.out 12).trans rfl, (blk_cell BK275.out 13).trans rfl, (blk_cell BK275.out 14).trans rfl⟩ (fun hHeld => ?_); refine with_tabW typecaselaw18_SpanClasses.tab7 typecaselaw18_SpanClasses.bits7 (fun HT_ HW_ => ?_)
            generalize w32.drew = w33 at BK275 HB hHeld ⊢
            refine take_ (i := 0) (N := some 27) (v := ?_) (a' := ?_) #[true, false, false, false, false, false, false, false, false, false, false, false, false, false, false, false] rfl rfl (take_ofW HT_.out HW_.out (by kernel_rfl)) (fun _ _ _ h => h) (Or.inl ⟨by rfl, ?_⟩) hHeld ?_ ?_
            rotate_left
            · rintro w' ⟨s0, s1, s2, s3, s4, s5, s6, s7, s8, s9, s10, s11, s12, s13, s14⟩
              go_simp
              with_reducible rfl
            rotate_left
            · simp only [Act.put, List.setIfInBounds_toArray, List.set_cons_zero, List.set_cons_succ, i64_w, i32_w]
              rfl
            refine take_ (i := 2) (N := some 29) (v := ?_) (a' := ?_) #[true, false, true, false, false, false, false, false, false, false, false, false, false, false, false, false] rfl rfl (take_ofW HT_.out HW_.out (by kernel_rfl)) (fun _ _ _ h => h) (Or.inl ⟨by rfl, ?_⟩) hHeld ?_ ?_
            rotate_left
            · rintro w' ⟨s0, s1, s2, s3, s4, s5, s6, s7, s8, s9, s10, s11, s12, s13, s14⟩
              go_simp
              with_reducible rfl
            rotate_left
            · simp only [Act.put, List.setIfInBounds_toArray, List.set_cons_zero, List.set_cons_succ, i64_w, i32_w]
              rfl
            refine one_ (i := 1) (N := some 28) #[true, true, true, false, false, false, false, false, false, false, false, false, false, false, false, false] rfl rfl (one_of HT_.out (by kernel_rfl)) (by decide) (fun K hK => ?_)
            refine goes_ Try.func13 (by kernel_rfl) rfl #[.agg #[.int .i64 a0_0, .int .i64 a0_1, .int .i64 a0_2, .string a0_3, .int .i64 a0_4, .int .i64 a0_5, .int .i64 a0_6, .int .i64 a0_7, .int .i32 a0_8, .string a0_9, .int .i64 a0_10, .slice A0_11 l0_11.length c0_11, .int .u32 a0_12, .bool a0_13, .bool a0_14]] (by rfl) rfl rfl (by (try simp only [List.map_toArray, List.map_cons, List.map_nil]); first | done | rfl | (simp only [List.length_drop, List.length_take]; rfl)) ?_
            with_reducible refine (span_Classes.calls k a0_0 a0_1 a0_2 a0_3 a0_4 a0_5 a0_6 a0_7 a0_8 a0_9 a0_10 _ _ l0_11 a0_12 a0_13 a0_14 t281 _ ?side1 ?side2 A11.out).mono ?_
            (case side1 => repeat (first | exact (Kd.C_below HR0_11.out HB.out) | (with_reducible refine Kd.C_alloc ?_ _) | (with_reducible refine Kd.C_drewN ?_ _) | (with_reducible refine Kd.C_drew ?_)))
            (case side2 => exact HC0_11.out)
            rintro e w34 ⟨v282, rfl, ho0, hb⟩
            refine ⟨_, rfl, ?_⟩
            have n0_ := Aside0.mk (Kd.R_lower ho0 (below_size (by repeat (first | (with_reducible first | exact HB.out | apply below_alloc | apply pw_below_drewN | apply below_drew1 | refine below_set ?_ GE275.out) | exact HB.out))))
            have n1_ := Aside0.mk (blk_below (g := gb275) (o := .cells #[.int .i64 a0_0, .int .i64 a0_1, .int .i64 a0_2, .string a0_3, .int .i64 a0_4, .int .i64 a0_5, .int .i64 a0_6, .int .i64 a0_7, .int .i32 a0_8, .string a0_9, .int .i64 a0_10, .slice A0_11 l0_11.length c0_11, .int .u32 a0_12, .bool a0_13, .bool a0_14] 27 (0, 0)) (by (with_reducible repeat (first | refine blk_drewN ?_ _ | refine blk_drew ?_ | refine blk_alloc ?_ _)); exact BK275.out) hb)
            have n2_ := Aside0.mk (below_step (by repeat (first | (with_reducible first | exact HB.out | apply below_alloc | apply pw_below_drewN | apply below_drew1 | refine below_set ?_ GE275.out) | exact HB.out)) hb)
            clear BK275
            clear HB
            have HO283 := n0_
            have BK275 := n1_
            have HB := n2_
            clear n0_ n1_ n2_
            (try clear hb)
            (try clear hb2)
            (try clear hk)
            (try clear hi)
            (try clear ho0)
            refine hK.out _ _ ⟨(blk_cell BK275.out 0).trans rfl, (blk_cell BK275.out 1).trans rfl, (blk_cell BK275.out 2).trans rfl, (blk_cell BK275.out 3).trans rfl, (blk_cell BK275.out 4).trans rfl, (blk_cell BK275.out 5).trans rfl, (blk_cell BK275.out 6).trans rfl, (blk_cell BK275.out 7).trans rfl, (blk_cell BK275.out 8).trans rfl, (blk_cell BK275.out 9).trans rfl, (blk_cell BK275.out 10).trans rfl, (blk_cell BK275.out 11).trans rfl, (blk_cell BK275.out 12).trans rfl, (blk_cell BK275.out 13).trans rfl, (blk_cell BK275.out 14).trans rfl⟩ (fun hHeld => ?_)
            clear hK K
            refine norm_ (a' := ?_) ?_ ?_
            rotate_left
            · show Act.put _ (some 28) _ = _
              simp only [Act.put, List.setIfInBounds_toArray, List.set_cons_zero, List.set_cons_succ, i64_w, i32_w]
              rfl
            refine one_ (i := 3) (N := some 30) #[true, true, true, true, false, false, false, false, false, false, false, false, false, false, false, false] rfl rfl (one_of HT_.out (by kernel_rfl)) (by decide) (fun K hK => ?_)
            refine goes_ Try.func14 (by kernel_rfl) rfl #[.agg #[.int .i64 a0_0, .int .i64 a0_1, .int .i64 a0_2, .string a0_3, .int .i64 a0_4, .int .i64 a0_5, .int .i64 a0_6, .int .i64 a0_7, .int .i32 a0_8, .string a0_9, .int .i64 a0_10, .slice A0_11 l0_11.length c0_11, .int .u32 a0_12, .bool a0_13, .bool a0_14]] (by rfl) rfl rfl (by (try simp only [List.map_toArray, List.map_cons, List.map_nil]); first | done | rfl | (simp only [List.length_drop, List.length_take]; rfl)) ?_
            with_reducible refine (typecaseref18_Classes.calls k a0_0 a0_1 a0_2 a0_3 a0_4 a0_5 a0_6 a0_7 a0_8 a0_9 a0_10 _ _ l0_11 a0_12 a0_13 a0_14 t284 _ ?side1 ?side2 A12.out).mono ?_
            (case side1 => repeat (first | exact (Kd.C_below HR0_11.out HB.out) | (with_reducible refine Kd.C_alloc ?_ _) | (with_reducible refine Kd.C_drewN ?_ _) | (with_reducible refine Kd.C_drew ?_)))
            (case side2 => exact HC0_11.out)
            rintro e w35 ⟨v285, rfl, ho0, hb⟩
            refine ⟨_, rfl, ?_⟩
            have n0_ := Aside0.mk (Kd.R_elder' (by (with_reducible repeat (first | apply Kd.R_alloc | apply Kd.R_drewN | apply Kd.R_drew)); exact HO283.out) (Kd.R_base ho0) hb)
            have n1_ := Aside0.mk (Kd.R_lower (Kd.R_new' ho0 (Kd.R_lt (by (with_reducible repeat (first | apply Kd.R_alloc | apply Kd.R_drewN | apply Kd.R_drew)); exact HO283.out))) (below_size (by repeat (first | (with_reducible first | exact HB.out | apply below_alloc | apply pw_below_drewN | apply below_drew1 | refine below_set ?_ GE275.out) | exact HB.out))))
            have n2_ := Aside0.mk (blk_below (g := gb275) (o := .cells #[.int .i64 a0_0, .int .i64 a0_1, .int .i64 a0_2, .string a0_3, .int .i64 a0_4, .int .i64 a0_5, .int .i64 a0_6, .int .i64 a0_7, .int .i32 a0_8, .string a0_9, .int .i64 a0_10, .slice A0_11 l0_11.length c0_11, .int .u32 a0_12, .bool a0_13, .bool a0_14] 27 (0, 0)) (by (with_reducible repeat (first | refine blk_drewN ?_ _ | refine blk_drew ?_ | refine blk_alloc ?_ _)); exact BK275.out) hb)
            have n3_ := Aside0.mk (below_step (by repeat (first | (with_reducible first | exact HB.out | apply below_alloc | apply pw_below_drewN | apply below_drew1 | refine below_set ?_ GE275.out) | exact HB.out)) hb)
            clear HO283
            clear BK275
            clear HB
            have HO283 := n0_
            have HO286 := n1_
            have BK275 := n2_
            have HB := n3_
            clear n0_ n1_ n2_ n3_
            (try clear hb)
            (try clear hb2)
            (try clear hk)
            (try clear hi)
            (try clear ho0)
            obtain ⟨Ao36, co36, eo36⟩ := Kd.R_slice HO283.out
            (first | subst eo36 | (injection eo36 with f1_ f2_ f3_; have f4_ := f1_.symm; have f5_ := f3_.symm; clear f1_ f2_ f3_; subst f4_; subst f5_))
            obtain ⟨Ao37, co37, eo37⟩ := Kd.R_slice HO286.out
            (first | subst eo37 | (injection eo37 with f1_ f2_ f3_; have f4_ := f1_.symm; have f5_ := f3_.symm; clear f1_ f2_ f3_; subst f4_; subst f5_))
            refine hK.out _ _ ⟨(blk_cell BK275.out 0).trans rfl, (blk_cell BK275.out 1).trans rfl, (blk_cell BK275.out 2).trans rfl, (blk_cell BK275.out 3).trans rfl, (blk_cell BK275.out 4).trans rfl, (blk_cell BK275.out 5).trans rfl, (blk_cell BK275.out 6).trans rfl, (blk_cell BK275.out 7).trans rfl, (blk_cell BK275.out 8).trans rfl, (blk_cell BK275.out 9).trans rfl, (blk_cell BK275.out 10).trans rfl, (blk_cell BK275.out 11).trans rfl, (blk_cell BK275.out 12).trans rfl, (blk_cell BK275.out 13).trans rfl, (blk_cell BK275.out 14).trans rfl⟩ (fun hHeld => ?_)
            clear hK K
            refine norm_ (a' := ?_) ?_ ?_
            rotate_left
            · show Act.put _ (some 30) _ = _
              simp only [Act.put, List.setIfInBounds_toArray, List.set_cons_zero, List.set_cons_succ, i64_w, i32_w]
              rfl
            refine one_ (i := 4) (N := some 31) #[true, true, true, true, true, false, false, false, false, false, false, false, false, false, false, false] rfl rfl (one_of HT_.out (by kernel_rfl)) (by decide) (fun K hK => ?_)
            refine goes_ Try.func12 (by kernel_rfl) rfl #[.slice Ao36 t281.length co36, .slice Ao37 t284.length co37] (by rfl) rfl rfl (by (try simp only [List.map_toArray, List.map_cons, List.map_nil]); first | done | rfl | (simp only [List.length_drop, List.length_take]; rfl)) ?_
            with_reducible refine (typecaselaw18_ints.calls k _ _ t281 _ _ t284 true _ ?side1 ?side2 ?side3 ?side4 A13.out).mono ?_
            (case side1 => repeat (first | exact (Kd.R_reads' HO283.out).2.2 | (with_reducible refine Kd.C_alloc ?_ _) | (with_reducible refine Kd.C_drewN ?_ _) | (with_reducible refine Kd.C_drew ?_)))
            (case side2 => exact (Kd.R_reads' HO283.out).2.1)
            (case side3 => repeat (first | exact (Kd.R_reads' HO286.out).2.2 | (with_reducible refine Kd.C_alloc ?_ _) | (with_reducible refine Kd.C_drewN ?_ _) | (with_reducible refine Kd.C_drew ?_)))
            (case side4 => exact (Kd.R_reads' HO286.out).2.1)
            rintro e w' ⟨rfl, ⟨nd, rfl⟩⟩
            refine ⟨_, rfl, ?_⟩
            refine hK.out _ _ ⟨(blk_cell BK275.out 0).trans rfl, (blk_cell BK275.out 1).trans rfl, (blk_cell BK275.out 2).trans rfl, (blk_cell BK275.out 3).trans rfl, (blk_cell BK275.out 4).trans rfl, (blk_cell BK275.out 5).trans rfl, (blk_cell BK275.out 6).trans rfl, (blk_cell BK275.out 7).trans rfl, (blk_cell BK275.out 8).trans rfl, (blk_cell BK275.out 9).trans rfl, (blk_cell BK275.out 10).trans rfl, (blk_cell BK275.out 11).trans rfl, (blk_cell BK275.out 12).trans rfl, (blk_cell BK275.out 13).trans rfl, (blk_cell BK275.out 14).trans rfl⟩ (fun hHeld => ?_)
            clear hK K
            refine norm_ (a' := ?_) ?_ ?_
            rotate_left
            · show Act.put _ (some 31) _ = _
              simp only [Act.put, List.setIfInBounds_toArray, List.set_cons_zero, List.set_cons_succ, i64_w, i32_w]
              rfl
            refine pure_ (i := 5) (N := some 32) (v := ?_) (a' := ?_) #[true, true, true, true, true, true, false, false, false, false, false, false, false, false, false, false] rfl rfl (any_of HT_.out (by kernel_rfl)) (fun _ _ _ h => h) (Or.inl ⟨by rfl, ?_⟩) ?_ ?_
            rotate_left
            · intro w'
              go_simp
              with_reducible rfl
            rotate_left
            · simp only [Act.put, List.setIfInBounds_toArray, List.set_cons_zero, List.set_cons_succ, i64_w, i32_w]
              rfl
            refine pure_ (i := 6) (N := some 33) (v := ?_) (a' := ?_) #[true, true, true, true, true, true, true, false, false, false, false, false, false, false, false, false] rfl rfl (any_of HT_.out (by kernel_rfl)) (fun _ _ _ h => h) (Or.inl ⟨by rfl, ?_⟩) ?_ ?_
            rotate_left
            · intro w'
              go_simp
              with_reducible rfl
            rotate_left
            · simp only [Act.put, List.setIfInBounds_toArray, List.set_cons_zero, List.set_cons_succ, i64_w, i32_w]
              rfl
            refine pure_ (i := 7) (N := some 34) (v := ?_) (a' := ?_) #[true, true, true, true, true, true, true, true, false, false, false, false, false, false, false, false] rfl rfl (any_of HT_.out (by kernel_rfl)) (fun _ _ _ h => h) (Or.inl ⟨by rfl, ?_⟩) ?_ ?_
            rotate_left
            · intro w'
              go_simp
              with_reducible rfl
            rotate_left
            · simp only [Act.put, List.setIfInBounds_toArray, List.set_cons_zero, List.set_cons_succ, i64_w, i32_w]
              rfl
            refine pure_ (i := 8) (N := some 35) (v := ?_) (a' := ?_) #[true, true, true, true, true, true, true, true, true, false, false, false, false, false, false, false] rfl rfl (any_of HT_.out (by kernel_rfl)) (fun _ _ _ h => h) (Or.inl ⟨by rfl, ?_⟩) ?_ ?_
            rotate_left
            · intro w'
              go_simp
              with_reducible rfl
            rotate_left
            · simp only [Act.put, List.setIfInBounds_toArray, List.set_cons_zero, List.set_cons_succ, i64_w, i32_w]
              rfl
            refine pure_ (i := 9) (N := some 36) (v := ?_) (a' := ?_) #[true, true, true, true, true, true, true, true, true, true, false, false, false, false, false, false] rfl rfl (any_of HT_.out (by kernel_rfl)) (fun _ _ _ h => h) (Or.inl ⟨by rfl, ?_⟩) ?_ ?_
            rotate_left
            · intro w'
              go_simp
              with_reducible rfl
            rotate_left
            · simp only [Act.put, List.setIfInBounds_toArray, List.set_cons_zero, List.set_cons_succ, i64_w, i32_w]
              rfl
            refine pure_ (i := 10) (N := some 37) (v := ?_) (a' := ?_) #[true, true, true, true, true, true, true, true, true, true, true, false, false, false, false, false] rfl rfl (any_of HT_.out (by kernel_rfl)) (fun _ _ _ h => h) (Or.inl ⟨by rfl, ?_⟩) ?_ ?_
            rotate_left
            · intro w'
              go_simp
              with_reducible rfl
            rotate_left
            · simp only [Act.put, List.setIfInBounds_toArray, List.set_cons_zero, List.set_cons_succ, i64_w, i32_w]
              rfl
            refine pure_ (i := 11) (N := some 38) (v := undef) (a' := ?_) #[true, true, true, true, true, true, true, true, true, true, true, true, false, false, false, false] rfl rfl (any_of HT_.out (by kernel_rfl)) (fun _ _ _ h => h) (Or.inr ⟨by rfl, rfl⟩) ?_ ?_
            rotate_left
            · simp only [Act.put, List.setIfInBounds_toArray, List.set_cons_zero, List.set_cons_succ, i64_w, i32_w]
              rfl
            refine pure_ (i := 12) (N := some 39) (v := undef) (a' := ?_) #[true, true, true, true, true, true, true, true, true, true, true, true, true, false, false, false] rfl rfl (any_of HT_.out (by kernel_rfl)) (fun _ _ _ h => h) (Or.inr ⟨by rfl, rfl⟩) ?_ ?_
            rotate_left
            · simp only [Act.put, List.setIfInBounds_toArray, List.set_cons_zero, List.set_cons_succ, i64_w, i32_w]
              rfl
            refine pure_ (i := 13) (N := some 40) (v := undef) (a' := ?_) #[true, true, true, true, true, true, true, true, true, true, true, true, true, true, false, false] rfl rfl (any_of HT_.out (by kernel_rfl)) (fun _ _ _ h => h) (Or.inr ⟨by rfl, rfl⟩) ?_ ?_
            rotate_left
            · simp only [Act.put, List.setIfInBounds_toArray, List.set_cons_zero, List.set_cons_succ, i64_w, i32_w]
              rfl
            refine pure_ (i := 14) (N := some 41) (v := ?_) (a' := ?_) #[true, true, true, true, true, true, true, true, true, true, true, true, true, true, true, false] rfl rfl (any_of HT_.out (by kernel_rfl)) (fun _ _ _ h => h) (Or.inl ⟨by rfl, ?_⟩) ?_ ?_
            rotate_left
            · intro w'
              go_simp
              with_reducible rfl
            rotate_left
            · simp only [Act.put, List.setIfInBounds_toArray, List.set_cons_zero, List.set_cons_succ, i64_w, i32_w]
              rfl
            refine pure_ (i := 15) (N := some 4) (v := ?_) (a' := ?_) #[true, true, true, true, true, true, true, true, true, true, true, true, true, true, true, true] rfl rfl (any_of HT_.out (by kernel_rfl)) (fun _ _ _ h => h) (Or.inl ⟨by rfl, ?_⟩) ?_ ?_
            rotate_left
            · intro w'
              go_simp
              with_reducible rfl
            rotate_left
            · simp only [Act.put, List.setIfInBounds_toArray, List.set_cons_zero, List.set_cons_succ, i64_w, i32_w]
              rfl
            refine done_ (done_of HT_.out (by kernel_rfl)) ?_
            try go_wp2
            go_ret
            exact ⟨by first | rfl | (simp [errW_none, errW_some] <;> rfl) | (simp [*, errW_none, errW_some] <;> rfl), by repeat (first | (with_reducible first | exact HB.out | apply below_alloc | apply pw_below_drewN | apply below_drew1 | refine below_set ?_ GE275.out) | exact HB.out)⟩
      · replace c14 := Bool.eq_false_iff.mpr c14
        subst c14
        have H1 : (some false) = some r := by rw [if_neg (show ¬ (false = true) by decide)] at H; exact H
        clear H
        have H := H1
        clear H1
        obtain rfl := Option.some.inj H
        as_aux_lemma =>
          go_enter Try.func4, Try.ntmps4
          try go_wp2_with (first | ((with_reducible refine gate_dst (N := 2) rfl ?_); refine box_event ?hg (N := 2) ?hd (cs := #[.int .i64 a0_0, .int .i64 a0_1, .int .i64 a0_2, .string a0_3, .int .i64 a0_4, .int .i64 a0_5, .int .i64 a0_6, .int .i64 a0_7, .int .i32 a0_8, .string a0_9, .int .i64 a0_10, .slice A0_11 l0_11.length c0_11, .int .u32 a0_12, .bool a0_13, .bool a0_14]) (t := 27) ?hr ?_; (case hd => rfl); (case hg => rfl); (case hr => first | (go_simp; done) | (go_simp; rfl)); intro gb275 hg w38 hbox hb; have n0_ := Aside0.mk (below_step (by repeat (first | (with_reducible first | exact HB.out | apply below_alloc | apply pw_below_drewN | apply below_drew1) | exact HB.out)) hb); have n1_ := Aside0.mk (hbox); have n2_ := Aside0.mk ((by rw [hg]; exact (below_size (by repeat (first | (with_reducible first | exact HB.out | apply below_alloc | apply pw_below_drewN | apply below_drew1) | exact HB.out))) : w.heap.size ≤ gb275)); have n3_ := Aside0.mk ((by rw [hg]; exact (below_size (by repeat (first | (with_reducible first | exact HB.out | apply below_alloc | apply pw_below_drewN | apply below_drew1) | exact HB.out))) : w.heap.size ≤ gb275)); clear HB; have HB := n0_; have BK275 := n1_; have GW275 := n2_; have GE275 := n3_; clear n0_ n1_ n2_ n3_; clear hb hbox hg) | ((with_reducible refine gate_callee (f := 7) rfl ?_); refine goesL_ (some 9) rfl rfl Try.func7 (by kernel_rfl) rfl #[] rfl (by (try simp only [List.map_toArray, List.map_cons, List.map_nil]); first | done | rfl | (simp only [List.length_drop, List.length_take]; rfl)) ?_; (with_reducible refine (typecaselaw18_awake.calls k  true _ A3.out).mono ?_); rintro e w39 ⟨rfl, hb⟩; refine ⟨_, rfl, ?_⟩; have n0_ := Aside0.mk (blk_below (g := gb275) (o := .cells #[.int .i64 a0_0, .int .i64 a0_1, .int .i64 a0_2, .string a0_3, .int .i64 a0_4, .int .i64 a0_5, .int .i64 a0_6, .int .i64 a0_7, .int .i32 a0_8, .string a0_9, .int .i64 a0_10, .slice A0_11 l0_11.length c0_11, .int .u32 a0_12, .bool a0_13, .bool a0_14] 27 (0, 0)) (by (with_reducible repeat (first | refine blk_drewN ?_ _ | refine blk_drew ?_ | refine blk_alloc ?_ _)); exact BK275.out) hb); have n1_ := Aside0.mk (below_step (by repeat (first | (with_reducible first | exact HB.out | apply below_alloc | apply pw_below_drewN | apply below_drew1 | refine below_set ?_ GE275.out) | exact HB.out)) hb); clear BK275; clear HB; have BK275 := n0_; have HB := n1_; clear n0_ n1_; (try clear hb); (try clear hb2); (try clear hk); (try clear hi); have hcz40_0 : w39.cell? ⟨gb275, 0, none⟩ = some (.int .i64 a0_0) := (blk_cell BK275.out 0).trans rfl; have hcz40_1 : w39.cell? ⟨gb275, 1, none⟩ = some (.int .i64 a0_1) := (blk_cell BK275.out 1).trans rfl; have hcz40_2 : w39.cell? ⟨gb275, 2, none⟩ = some (.int .i64 a0_2) := (blk_cell BK275.out 2).trans rfl; have hcz40_3 : w39.cell? ⟨gb275, 3, none⟩ = some (.string a0_3) := (blk_cell BK275.out 3).trans rfl; have hcz40_4 : w39.cell? ⟨gb275, 4, none⟩ = some (.int .i64 a0_4) := (blk_cell BK275.out 4).trans rfl; have hcz40_5 : w39.cell? ⟨gb275, 5, none⟩ = some (.int .i64 a0_5) := (blk_cell BK275.out 5).trans rfl; have hcz40_6 : w39.cell? ⟨gb275, 6, none⟩ = some (.int .i64 a0_6) := (blk_cell BK275.out 6).trans rfl; have hcz40_7 : w39.cell? ⟨gb275, 7, none⟩ = some (.int .i64 a0_7) := (blk_cell BK275.out 7).trans rfl; have hcz40_8 : w39.cell? ⟨gb275, 8, none⟩ = some (.int .i32 a0_8) := (blk_cell BK275.out 8).trans rfl; have hcz40_9 : w39.cell? ⟨gb275, 9, none⟩ = some (.string a0_9) := (blk_cell BK275.out 9).trans rfl; have hcz40_10 : w39.cell? ⟨gb275, 10, none⟩ = some (.int .i64 a0_10) := (blk_cell BK275.out 10).trans rfl; have hcz40_11 : w39.cell? ⟨gb275, 11, none⟩ = some (.slice A0_11 l0_11.length c0_11) := (blk_cell BK275.out 11).trans rfl; have hcz40_12 : w39.cell? ⟨gb275, 12, none⟩ = some (.int .u32 a0_12) := (blk_cell BK275.out 12).trans rfl; have hcz40_13 : w39.cell? ⟨gb275, 13, none⟩ = some (.bool a0_13) := (blk_cell BK275.out 13).trans rfl; have hcz40_14 : w39.cell? ⟨gb275, 14, none⟩ = some (.bool a0_14) := (blk_cell BK275.out 14).trans rfl; have hfz40_0 := blk_frozen BK275.out 0; have hfz40_1 := blk_frozen BK275.out 1; have hfz40_2 := blk_frozen BK275.out 2; have hfz40_3 := blk_frozen BK275.out 3; have hfz40_4 := blk_frozen BK275.out 4; have hfz40_5 := blk_frozen BK275.out 5; have hfz40_6 := blk_frozen BK275.out 6; have hfz40_7 := blk_frozen BK275.out 7; have hfz40_8 := blk_frozen BK275.out 8; have hfz40_9 := blk_frozen BK275.out 9; have hfz40_10 := blk_frozen BK275.out 10; have hfz40_11 := blk_frozen BK275.out 11; have hfz40_12 := blk_frozen BK275.out 12; have hfz40_13 := blk_frozen BK275.out 13; have hfz40_14 := blk_frozen BK275.out 14) | ((with_reducible refine gate_callee (f := 10) rfl ?_); refine goesL_ (some 18) rfl rfl Try.func10 (by kernel_rfl) rfl #[.agg #[.int .i64 a0_0, .int .i64 a0_1, .int .i64 a0_2, .string a0_3, .int .i64 a0_4, .int .i64 a0_5, .int .i64 a0_6, .int .i64 a0_7, .int .i32 a0_8, .string a0_9, .int .i64 a0_10, .slice A0_11 l0_11.length c0_11, .int .u32 a0_12, .bool a0_13, .bool a0_14], .int .i64 a1] rfl (by (try simp only [List.map_toArray, List.map_cons, List.map_nil]); first | done | rfl | (simp only [List.length_drop, List.length_take]; rfl)) ?_; (with_reducible refine (span_Next.calls k a0_0 a0_1 a0_2 a0_3 a0_4 a0_5 a0_6 a0_7 a0_8 a0_9 a0_10 _ _ l0_11 a0_12 a0_13 a0_14 a1 t277 t278 _ ?side1 ?side2 A9.out).mono ?_); (case side1 => repeat (first | exact (Kd.C_below HR0_11.out HB.out) | (with_reducible refine Kd.C_alloc ?_ _) | (with_reducible refine Kd.C_drewN ?_ _) | (with_reducible refine Kd.C_drew ?_))); (case side2 => exact HC0_11.out); rintro e w41 ⟨rfl, hb⟩; refine ⟨_, rfl, ?_⟩; have n0_ := Aside0.mk (blk_below (g := gb275) (o := .cells #[.int .i64 a0_0, .int .i64 a0_1, .int .i64 a0_2, .string a0_3, .int .i64 a0_4, .int .i64 a0_5, .int .i64 a0_6, .int .i64 a0_7, .int .i32 a0_8, .string a0_9, .int .i64 a0_10, .slice A0_11 l0_11.length c0_11, .int .u32 a0_12, .bool a0_13, .bool a0_14] 27 (0, 0)) (by (with_reducible repeat (first | refine blk_drewN ?_ _ | refine blk_drew ?_ | refine blk_alloc ?_ _)); exact BK275.out) hb); have n1_ := Aside0.mk (below_step (by repeat (first | (with_reducible first | exact HB.out | apply below_alloc | apply pw_below_drewN | apply below_drew1 | refine below_set ?_ GE275.out) | exact HB.out)) hb); clear BK275; clear HB; have BK275 := n0_; have HB := n1_; clear n0_ n1_; (try clear hb); (try clear hb2); (try clear hk); (try clear hi); have hcz42_0 : w41.cell? ⟨gb275, 0, none⟩ = some (.int .i64 a0_0) := (blk_cell BK275.out 0).trans rfl; have hcz42_1 : w41.cell? ⟨gb275, 1, none⟩ = some (.int .i64 a0_1) := (blk_cell BK275.out 1).trans rfl; have hcz42_2 : w41.cell? ⟨gb275, 2, none⟩ = some (.int .i64 a0_2) := (blk_cell BK275.out 2).trans rfl; have hcz42_3 : w41.cell? ⟨gb275, 3, none⟩ = some (.string a0_3) := (blk_cell BK275.out 3).trans rfl; have hcz42_4 : w41.cell? ⟨gb275, 4, none⟩ = some (.int .i64 a0_4) := (blk_cell BK275.out 4).trans rfl; have hcz42_5 : w41.cell? ⟨gb275, 5, none⟩ = some (.int .i64 a0_5) := (blk_cell BK275.out 5).trans rfl; have hcz42_6 : w41.cell? ⟨gb275, 6, none⟩ = some (.int .i64 a0_6) := (blk_cell BK275.out 6).trans rfl; have hcz42_7 : w41.cell? ⟨gb275, 7, none⟩ = some (.int .i64 a0_7) := (blk_cell BK275.out 7).trans rfl; have hcz42_8 : w41.cell? ⟨gb275, 8, none⟩ = some (.int .i32 a0_8) := (blk_cell BK275.out 8).trans rfl; have hcz42_9 : w41.cell? ⟨gb275, 9, none⟩ = some (.string a0_9) := (blk_cell BK275.out 9).trans rfl; have hcz42_10 : w41.cell? ⟨gb275, 10, none⟩ = some (.int .i64 a0_10) := (blk_cell BK275.out 10).trans rfl; have hcz42_11 : w41.cell? ⟨gb275, 11, none⟩ = some (.slice A0_11 l0_11.length c0_11) := (blk_cell BK275.out 11).trans rfl; have hcz42_12 : w41.cell? ⟨gb275, 12, none⟩ = some (.int .u32 a0_12) := (blk_cell BK275.out 12).trans rfl; have hcz42_13 : w41.cell? ⟨gb275, 13, none⟩ = some (.bool a0_13) := (blk_cell BK275.out 13).trans rfl; have hcz42_14 : w41.cell? ⟨gb275, 14, none⟩ = some (.bool a0_14) := (blk_cell BK275.out 14).trans rfl; have hfz42_0 := blk_frozen BK275.out 0; have hfz42_1 := blk_frozen BK275.out 1; have hfz42_2 := blk_frozen BK275.out 2; have hfz42_3 := blk_frozen BK275.out 3; have hfz42_4 := blk_frozen BK275.out 4; have hfz42_5 := blk_frozen BK275.out 5; have hfz42_6 := blk_frozen BK275.out 6; have hfz42_7 := blk_frozen BK275.out 7; have hfz42_8 := blk_frozen BK275.out 8; have hfz42_9 := blk_frozen BK275.out 9; have hfz42_10 := blk_frozen BK275.out 10; have hfz42_11 := blk_frozen BK275.out 11; have hfz42_12 := blk_frozen BK275.out 12; have hfz42_13 := blk_frozen BK275.out 13; have hfz42_14 := blk_frozen BK275.out 14) | ((with_reducible refine gate_callee (f := 11) rfl ?_); refine goesL_ (some 24) rfl rfl Try.func11 (by kernel_rfl) rfl #[.agg #[.int .i64 a0_0, .int .i64 a0_1, .int .i64 a0_2, .string a0_3, .int .i64 a0_4, .int .i64 a0_5, .int .i64 a0_6, .int .i64 a0_7, .int .i32 a0_8, .string a0_9, .int .i64 a0_10, .slice A0_11 l0_11.length c0_11, .int .u32 a0_12, .bool a0_13, .bool a0_14], .int .i64 a1] rfl (by (try simp only [List.map_toArray, List.map_cons, List.map_nil]); first | done | rfl | (simp only [List.length_drop, List.length_take]; rfl)) ?_; (with_reducible refine (typecaseref18_Next.calls k a0_0 a0_1 a0_2 a0_3 a0_4 a0_5 a0_6 a0_7 a0_8 a0_9 a0_10 _ _ l0_11 a0_12 a0_13 a0_14 a1 t279 t280 _ ?side1 ?side2 A10.out).mono ?_); (case side1 => repeat (first | exact (Kd.C_below HR0_11.out HB.out) | (with_reducible refine Kd.C_alloc ?_ _) | (with_reducible refine Kd.C_drewN ?_ _) | (with_reducible refine Kd.C_drew ?_))); (case side2 => exact HC0_11.out); rintro e w43 ⟨rfl, hb⟩; refine ⟨_, rfl, ?_⟩; have n0_ := Aside0.mk (blk_below (g := gb275) (o := .cells #[.int .i64 a0_0, .int .i64 a0_1, .int .i64 a0_2, .string a0_3, .int .i64 a0_4, .int .i64 a0_5, .int .i64 a0_6, .int .i64 a0_7, .int .i32 a0_8, .string a0_9, .int .i64 a0_10, .slice A0_11 l0_11.length c0_11, .int .u32 a0_12, .bool a0_13, .bool a0_14] 27 (0, 0)) (by (with_reducible repeat (first | refine blk_drewN ?_ _ | refine blk_drew ?_ | refine blk_alloc ?_ _)); exact BK275.out) hb); have n1_ := Aside0.mk (below_step (by repeat (first | (with_reducible first | exact HB.out | apply below_alloc | apply pw_below_drewN | apply below_drew1 | refine below_set ?_ GE275.out) | exact HB.out)) hb); clear BK275; clear HB; have BK275 := n0_; have HB := n1_; clear n0_ n1_; (try clear hb); (try clear hb2); (try clear hk); (try clear hi)))
          have n0_ := Aside0.mk (blk_drew BK275.out)
          have n1_ := Aside0.mk (below_drew1 HB.out)
          clear BK275
          clear HB
          have BK275 := n0_
          have HB := n1_
          clear n0_ n1_
          refine start_ (n := 16) (S := fun w' => w'.cell? ⟨gb275, 0, none⟩ = some (.int .i64 a0_0) ∧ w'.cell? ⟨gb275, 1, none⟩ = some (.int .i64 a0_1) ∧ w'.cell? ⟨gb275, 2, none⟩ = some (.int .i64 a0_2) ∧ w'.cell? ⟨gb275, 3, none⟩ = some (.string a0_3) ∧ w'.cell? ⟨gb275, 4, none⟩ = some (.int .i64 a0_4) ∧ w'.cell? ⟨gb275, 5, none⟩ = some (.int .i64 a0_5) ∧ w'.cell? ⟨gb275, 6, none⟩ = some (.int .i64 a0_6) ∧ w'.cell? ⟨gb275, 7, none⟩ = some (.int .i64 a0_7) ∧ w'.cell? ⟨gb275, 8, none⟩ = some (.int .i32 a0_8) ∧ w'.cell? ⟨gb275, 9, none⟩ = some (.string a0_9) ∧ w'.cell? ⟨gb275, 10, none⟩ = some (.int .i64 a0_10) ∧ w'.cell? ⟨gb275, 11, none⟩ = some (.slice A0_11 l0_11.length c0_11) ∧ w'.cell? ⟨gb275, 12, none⟩ = some (.int .u32 a0_12) ∧ w'.cell? ⟨gb275, 13, none⟩ = some (.bool a0_13) ∧ w'.cell? ⟨gb275, 14, none⟩ = some (.bool a0_14)) (ds := []) #[false, false, false, false, false, false, false, false, false, false, false, false, false, false, false, false] (by kernel_rfl) rfl rfl ⟨(blk_cell BK275.out 0).trans rfl, (blk_cell BK275.out 1).trans rfl, (blk_cell BK275.out 2).trans rfl, (blk_cell BK275.out 3).trans rfl, (blk_cell BK275.out 4).trans rfl, (blk_cell BK275.out 5).trans rfl, (blk_cell BK275.out 6).trans rfl, (blk_cell BK275.out 7).trans rfl, (blk_cell BK275.out 8).trans rfl, (blk_cell BK275.out 9).trans rfl, (blk_cell BK275.out 10).trans rfl, (blk_cell BK275.out 11).trans rfl, (blk_cell BK275.out 12).trans rfl, (blk_cell BK275.out 13).trans rfl, (blk_cell BK275.out 14).trans rfl⟩ (fun hHeld => ?_); refine with_tabW typecaselaw18_SpanClasses.tab7 typecaselaw18_SpanClasses.bits7 (fun HT_ HW_ => ?_)
          generalize w43.drew = w44 at BK275 HB hHeld ⊢
          refine take_ (i := 0) (N := some 27) (v := ?_) (a' := ?_) #[true, false, false, false, false, false, false, false, false, false, false, false, false, false, false, false] rfl rfl (take_ofW HT_.out HW_.out (by kernel_rfl)) (fun _ _ _ h => h) (Or.inl ⟨by rfl, ?_⟩) hHeld ?_ ?_
          rotate_left
          · rintro w' ⟨s0, s1, s2, s3, s4, s5, s6, s7, s8, s9, s10, s11, s12, s13, s14⟩
            go_simp
            with_reducible rfl
          rotate_left
          · simp only [Act.put, List.setIfInBounds_toArray, List.set_cons_zero, List.set_cons_succ, i64_w, i32_w]
            rfl
          refine take_ (i := 2) (N := some 29) (v := ?_) (a' := ?_) #[true, false, true, false, false, false, false, false, false, false, false, false, false, false, false, false] rfl rfl (take_ofW HT_.out HW_.out (by kernel_rfl)) (fun _ _ _ h => h) (Or.inl ⟨by rfl, ?_⟩) hHeld ?_ ?_
          rotate_left
          · rintro w' ⟨s0, s1, s2, s3, s4, s5, s6, s7, s8, s9, s10, s11, s12, s13, s14⟩
            go_simp
            with_reducible rfl
          rotate_left
          · simp only [Act.put, List.setIfInBounds_toArray, List.set_cons_zero, List.set_cons_succ, i64_w, i32_w]
            rfl
          refine one_ (i := 1) (N := some 28) #[true, true, true, false, false, false, false, false, false, false, false, false, false, false, false, false] rfl rfl (one_of HT_.out (by kernel_rfl)) (by decide) (fun K hK => ?_)
          refine goes_ Try.func13 (by kernel_rfl) rfl #[.agg #[.int .i64 a0_0, .int .i64 a0_1, .int .i64 a0_2, .string a0_3, .int .i64 a0_4, .int .i64 a0_5, .int .i64 a0_6, .int .i64 a0_7, .int .i32 a0_8, .string a0_9, .int .i64 a0_10, .slice A0_11 l0_11.length c0_11, .int .u32 a0_12, .bool a0_13, .bool a0_14]] (by rfl) rfl rfl (by (try simp only [List.map_toArray, List.map_cons, List.map_nil]); first | done | rfl | (simp only [List.length_drop, List.length_take]; rfl)) ?_
          with_reducible refine (span_Classes.calls k a0_0 a0_1 a0_2 a0_3 a0_4 a0_5 a0_6 a0_7 a0_8 a0_9 a0_10 _ _ l0_11 a0_12 a0_13 a0_14 t281 _ ?side1 ?side2 A11.out).mono ?_
          (case side1 => repeat (first | exact (Kd.C_below HR0_11.out HB.out) | (with_reducible refine Kd.C_alloc ?_ _) | (with_reducible refine Kd.C_drewN ?_ _) | (with_reducible refine Kd.C_drew ?_)))
          (case side2 => exact HC0_11.out)
          rintro e w45 ⟨v282, rfl, ho0, hb⟩
          refine ⟨_, rfl, ?_⟩
          have n0_ := Aside0.mk (Kd.R_lower ho0 (below_size (by repeat (first | (with_reducible first | exact HB.out | apply below_alloc | apply pw_below_drewN | apply below_drew1 | refine below_set ?_ GE275.out) | exact HB.out))))
          have n1_ := Aside0.mk (blk_below (g := gb275) (o := .cells #[.int .i64 a0_0, .int .i64 a0_1, .int .i64 a0_2, .string a0_3, .int .i64 a0_4, .int .i64 a0_5, .int .i64 a0_6, .int .i64 a0_7, .int .i32 a0_8, .string a0_9, .int .i64 a0_10, .slice A0_11 l0_11.length c0_11, .int .u32 a0_12, .bool a0_13, .bool a0_14] 27 (0, 0)) (by (with_reducible repeat (first | refine blk_drewN ?_ _ | refine blk_drew ?_ | refine blk_alloc ?_ _)); exact BK275.out) hb)
          have n2_ := Aside0.mk (below_step (by repeat (first | (with_reducible first | exact HB.out | apply below_alloc | apply pw_below_drewN | apply below_drew1 | refine below_set ?_ GE275.out) | exact HB.out)) hb)
          clear BK275
          clear HB
          have HO283 := n0_
          have BK275 := n1_
          have HB := n2_
          clear n0_ n1_ n2_
          (try clear hb)
          (try clear hb2)
          (try clear hk)
          (try clear hi)
          (try clear ho0)
          refine hK.out _ _ ⟨(blk_cell BK275.out 0).trans rfl, (blk_cell BK275.out 1).trans rfl, (blk_cell BK275.out 2).trans rfl, (blk_cell BK275.out 3).trans rfl, (blk_cell BK275.out 4).trans rfl, (blk_cell BK275.out 5).trans rfl, (blk_cell BK275.out 6).trans rfl, (blk_cell BK275.out 7).trans rfl, (blk_cell BK275.out 8).trans rfl, (blk_cell BK275.out 9).trans rfl, (blk_cell BK275.out 10).trans rfl, (blk_cell BK275.out 11).trans rfl, (blk_cell BK275.out 12).trans rfl, (blk_cell BK275.out 13).trans rfl, (blk_cell BK275.out 14).trans rfl⟩ (fun hHeld => ?_)
          clear hK K
          refine norm_ (a' := ?_) ?_ ?_
          rotate_left
          · show Act.put _ (some 28) _ = _
            simp only [Act.put, List.setIfInBounds_toArray, List.set_cons_zero, List.set_cons_succ, i64_w, i32_w]
            rfl
          refine one_ (i := 3) (N := some 30) #[true, true, true, true, false, false, false, false, false, false, false, false, false, false, false, false] rfl rfl (one_of HT_.out (by kernel_rfl)) (by decide) (fun K hK => ?_)
          refine goes_ Try.func14 (by kernel_rfl) rfl #[.agg #[.int .i64 a0_0, .int .i64 a0_1, .int .i64 a0_2, .string a0_3, .int .i64 a0_4, .int .i64 a0_5, .int .i64 a0_6, .int .i64 a0_7, .int .i32 a0_8, .string a0_9, .int .i64 a0_10, .slice A0_11 l0_11.length c0_11, .int .u32 a0_12, .bool a0_13, .bool a0_14]] (by rfl) rfl rfl (by (try simp only [List.map_toArray, List.map_cons, List.map_nil]); first | done | rfl | (simp only [List.length_drop, List.length_take]; rfl)) ?_
          with_reducible refine (typecaseref18_Classes.calls k a0_0 a0_1 a0_2 a0_3 a0_4 a0_5 a0_6 a0_7 a0_8 a0_9 a0_10 _ _ l0_11 a0_12 a0_13 a0_14 t284 _ ?side1 ?side2 A12.out).mono ?_
          (case side1 => repeat (first | exact (Kd.C_below HR0_11.out HB.out) | (with_reducible refine Kd.C_alloc ?_ _) | (with_reducible refine Kd.C_drewN ?_ _) | (with_reducible refine Kd.C_drew ?_)))
          (case side2 => exact HC0_11.out)
          rintro e w46 ⟨v285, rfl, ho0, hb⟩
          refine ⟨_, rfl, ?_⟩
          have n0_ := Aside0.mk (Kd.R_elder' (by (with_reducible repeat (first | apply Kd.R_alloc | apply Kd.R_drewN | apply Kd.R_drew)); exact HO283.out) (Kd.R_base ho0) hb)
          have n1_ := Aside0.mk (Kd.R_lower (Kd.R_new' ho0 (Kd.R_lt (by (with_reducible repeat (first | apply Kd.R_alloc | apply Kd.R_drewN | apply Kd.R_drew)); exact HO283.out))) (below_size (by repeat (first | (with_reducible first | exact HB.out | apply below_alloc | apply pw_below_drewN | apply below_drew1 | refine below_set ?_ GE275.out) | exact HB.out))))
          have n2_ := Aside0.mk (blk_below (g := gb275) (o := .cells #[.int .i64 a0_0, .int .i64 a0_1, .int .i64 a0_2, .string a0_3, .int .i64 a0_4, .int .i64 a0_5, .int .i64 a0_6, .int .i64 a0_7, .int .i32 a0_8, .string a0_9, .int .i64 a0_10, .slice A0_11 l0_11.length c0_11, .int .u32 a0_12, .bool a0_13, .bool a0_14] 27 (0, 0)) (by (with_reducible repeat (first | refine blk_drewN ?_ _ | refine blk_drew ?_ | refine blk_alloc ?_ _)); exact BK275.out) hb)
          have n3_ := Aside0.mk (below_step (by repeat (first | (with_reducible first | exact HB.out | apply below_alloc | apply pw_below_drewN | apply below_drew1 | refine below_set ?_ GE275.out) | exact HB.out)) hb)
          clear HO283
          clear BK275
          clear HB
          have HO283 := n0_
          have HO286 := n1_
          have BK275 := n2_
          have HB := n3_
          clear n0_ n1_ n2_ n3_
          (try clear hb)
          (try clear hb2)
          (try clear hk)
          (try clear hi)
          (try clear ho0)
          obtain ⟨Ao47, co47, eo47⟩ := Kd.R_slice HO283.out
          (first | subst eo47 | (injection eo47 with f1_ f2_ f3_; have f4_ := f1_.symm; have f5_ := f3_.symm; clear f1_ f2_ f3_; subst f4_; subst f5_))
          obtain ⟨Ao48, co48, eo48⟩ := Kd.R_slice HO286.out
          (first | subst eo48 | (injection eo48 with f1_ f2_ f3_; have f4_ := f1_.symm; have f5_ := f3_.symm; clear f1_ f2_ f3_; subst f4_; subst f5_))
          refine hK.out _ _ ⟨(blk_cell BK275.out 0).trans rfl, (blk_cell BK275.out 1).trans rfl, (blk_cell BK275.out 2).trans rfl, (blk_cell BK275.out 3).trans rfl, (blk_cell BK275.out 4).trans rfl, (blk_cell BK275.out 5).trans rfl, (blk_cell BK275.out 6).trans rfl, (blk_cell BK275.out 7).trans rfl, (blk_cell BK275.out 8).trans rfl, (blk_cell BK275.out 9).trans rfl, (blk_cell BK275.out 10).trans rfl, (blk_cell BK275.out 11).trans rfl, (blk_cell BK275.out 12).trans rfl, (blk_cell BK275.out 13).trans rfl, (blk_cell BK275.out 14).trans rfl⟩ (fun hHeld => ?_)
          clear hK K
          refine norm_ (a' := ?_) ?_ ?_
          rotate_left
          · show Act.put _ (some 30) _ = _
            simp only [Act.put, List.setIfInBounds_toArray, List.set_cons_zero, List.set_cons_succ, i64_w, i32_w]
            rfl
          refine one_ (i := 4) (N := some 31) #[true, true, true, true, true, false, false, false, false, false, false, false, false, false, false, false] rfl rfl (one_of HT_.out (by kernel_rfl)) (by decide) (fun K hK => ?_)
          refine goes_ Try.func12 (by kernel_rfl) rfl #[.slice Ao47 t281.length co47, .slice Ao48 t284.length co48] (by rfl) rfl rfl (by (try simp only [List.map_toArray, List.map_cons, List.map_nil]); first | done | rfl | (simp only [List.length_drop, List.length_take]; rfl)) ?_
          with_reducible refine (typecaselaw18_ints.calls k _ _ t281 _ _ t284 false _ ?side1 ?side2 ?side3 ?side4 A13.out).mono ?_
          (case side1 => repeat (first | exact (Kd.R_reads' HO283.out).2.2 | (with_reducible refine Kd.C_alloc ?_ _) | (with_reducible refine Kd.C_drewN ?_ _) | (with_reducible refine Kd.C_drew ?_)))
          (case side2 => exact (Kd.R_reads' HO283.out).2.1)
          (case side3 => repeat (first | exact (Kd.R_reads' HO286.out).2.2 | (with_reducible refine Kd.C_alloc ?_ _) | (with_reducible refine Kd.C_drewN ?_ _) | (with_reducible refine Kd.C_drew ?_)))
          (case side4 => exact (Kd.R_reads' HO286.out).2.1)
          rintro e w' ⟨rfl, ⟨nd, rfl⟩⟩
          refine ⟨_, rfl, ?_⟩
          refine hK.out _ _ ⟨(blk_cell BK275.out 0).trans rfl, (blk_cell BK275.out 1).trans rfl, (blk_cell BK275.out 2).trans rfl, (blk_cell BK275.out 3).trans rfl, (blk_cell BK275.out 4).trans rfl, (blk_cell BK275.out 5).trans rfl, (blk_cell BK275.out 6).trans rfl, (blk_cell BK275.out 7).trans rfl, (blk_cell BK275.out 8).trans rfl, (blk_cell BK275.out 9).trans rfl, (blk_cell BK275.out 10).trans rfl, (blk_cell BK275.out 11).trans rfl, (blk_cell BK275.out 12).trans rfl, (blk_cell BK275.out 13).trans rfl, (blk_cell BK275.out 14).trans rfl⟩ (fun hHeld => ?_)
          clear hK K
          refine norm_ (a' := ?_) ?_ ?_
          rotate_left
          · show Act.put _ (some 31) _ = _
            simp only [Act.put, List.setIfInBounds_toArray, List.set_cons_zero, List.set_cons_succ, i64_w, i32_w]
            rfl
          refine pure_ (i := 5) (N := some 32) (v := ?_) (a' := ?_) #[true, true, true, true, true, true, false, false, false, false, false, false, false, false, false, false] rfl rfl (any_of HT_.out (by kernel_rfl)) (fun _ _ _ h => h) (Or.inl ⟨by rfl, ?_⟩) ?_ ?_
          rotate_left
          · intro w'
            go_simp
            with_reducible rfl
          rotate_left
          · simp only [Act.put, List.setIfInBounds_toArray, List.set_cons_zero, List.set_cons_succ, i64_w, i32_w]
            rfl
          refine pure_ (i := 6) (N := some 33) (v := undef) (a' := ?_) #[true, true, true, true, true, true, true, false, false, false, false, false, false, false, false, false] rfl rfl (any_of HT_.out (by kernel_rfl)) (fun _ _ _ h => h) (Or.inr ⟨by rfl, rfl⟩) ?_ ?_
          rotate_left
          · simp only [Act.put, List.setIfInBounds_toArray, List.set_cons_zero, List.set_cons_succ, i64_w, i32_w]
            rfl
          refine pure_ (i := 7) (N := some 34) (v := undef) (a' := ?_) #[true, true, true, true, true, true, true, true, false, false, false, false, false, false, false, false] rfl rfl (any_of HT_.out (by kernel_rfl)) (fun _ _ _ h => h) (Or.inr ⟨by rfl, rfl⟩) ?_ ?_
          rotate_left
          · simp only [Act.put, List.setIfInBounds_toArray, List.set_cons_zero, List.set_cons_succ, i64_w, i32_w]
            rfl
          refine pure_ (i := 8) (N := some 35) (v := undef) (a' := ?_) #[true, true, true, true, true, true, true, true, true, false, false, false, false, false, false, false] rfl rfl (any_of HT_.out (by kernel_rfl)) (fun _ _ _ h => h) (Or.inr ⟨by rfl, rfl⟩) ?_ ?_
          rotate_left
          · simp only [Act.put, List.setIfInBounds_toArray, List.set_cons_zero, List.set_cons_succ, i64_w, i32_w]
            rfl
          refine pure_ (i := 9) (N := some 36) (v := ?_) (a' := ?_) #[true, true, true, true, true, true, true, true, true, true, false, false, false, false, false, false] rfl rfl (any_of HT_.out (by kernel_rfl)) (fun _ _ _ h => h) (Or.inl ⟨by rfl, ?_⟩) ?_ ?_
          rotate_left
          · intro w'
            go_simp
            with_reducible rfl
          rotate_left
          · simp only [Act.put, List.setIfInBounds_toArray, List.set_cons_zero, List.set_cons_succ, i64_w, i32_w]
            rfl
          refine pure_ (i := 10) (N := some 37) (v := ?_) (a' := ?_) #[true, true, true, true, true, true, true, true, true, true, true, false, false, false, false, false] rfl rfl (any_of HT_.out (by kernel_rfl)) (fun _ _ _ h => h) (Or.inl ⟨by rfl, ?_⟩) ?_ ?_
          rotate_left
          · intro w'
            go_simp
            with_reducible rfl
          rotate_left
          · simp only [Act.put, List.setIfInBounds_toArray, List.set_cons_zero, List.set_cons_succ, i64_w, i32_w]
            rfl
          refine pure_ (i := 11) (N := some 38) (v := undef) (a' := ?_) #[true, true, true, true, true, true, true, true, true, true, true, true, false, false, false, false] rfl rfl (any_of HT_.out (by kernel_rfl)) (fun _ _ _ h => h) (Or.inr ⟨by rfl, rfl⟩) ?_ ?_
          rotate_left
          · simp only [Act.put, List.setIfInBounds_toArray, List.set_cons_zero, List.set_cons_succ, i64_w, i32_w]
            rfl
          refine pure_ (i := 12) (N := some 39) (v := undef) (a' := ?_) #[true, true, true, true, true, true, true, true, true, true, true, true, true, false, false, false] rfl rfl (any_of HT_.out (by kernel_rfl)) (fun _ _ _ h => h) (Or.inr ⟨by rfl, rfl⟩) ?_ ?_
          rotate_left
          · simp only [Act.put, List.setIfInBounds_toArray, List.set_cons_zero, List.set_cons_succ, i64_w, i32_w]
            rfl
          refine pure_ (i := 13) (N := some 40) (v := undef) (a' := ?_) #[true, true, true, true, true, true, true, true, true, true, true, true, true, true, false, false] rfl rfl (any_of HT_.out (by kernel_rfl)) (fun _ _ _ h => h) (Or.inr ⟨by rfl, rfl⟩) ?_ ?_
          rotate_left
          · simp only [Act.put, List.setIfInBounds_toArray, List.set_cons_zero, List.set_cons_succ, i64_w, i32_w]
            rfl
          refine pure_ (i := 14) (N := some 41) (v := ?_) (a' := ?_) #[true, true, true, true, true, true, true, true, true, true, true, true, true, true, true, false] rfl rfl (any_of HT_.out (by kernel_rfl)) (fun _ _ _ h => h) (Or.inl ⟨by rfl, ?_⟩) ?_ ?_
          rotate_left
          · intro w'
            go_simp
            with_reducible rfl
          rotate_left
          · simp only [Act.put, List.setIfInBounds_toArray, List.set_cons_zero, List.set_cons_succ, i64_w, i32_w]
            rfl
          refine pure_ (i := 15) (N := some 4) (v := ?_) (a' := ?_) #[true, true, true, true, true, true, true, true, true, true, true, true, true, true, true, true] rfl rfl (any_of HT_.out (by kernel_rfl)) (fun _ _ _ h => h) (Or.inl ⟨by rfl, ?_⟩) ?_ ?_
          rotate_left
          · intro w'
            go_simp
            with_reducible rfl
          rotate_left
          · simp only [Act.put, List.setIfInBounds_toArray, List.set_cons_zero, List.set_cons_succ, i64_w, i32_w]
            rfl
          refine done_ (done_of HT_.out (by kernel_rfl)) ?_
          try go_wp2
          go_ret
          exact ⟨by first | rfl | (simp [errW_none, errW_some] <;> rfl) | (simp [*, errW_none, errW_some] <;> rfl), by repeat (first | (with_reducible first | exact HB.out | apply below_alloc | apply pw_below_drewN | apply below_drew1 | refine below_set ?_ GE275.out) | exact HB.out)⟩
  · replace c4 := Bool.eq_false_iff.mpr c4
    subst c4
    have H1 : (some false) = some r := by rw [if_neg (show ¬ (false = true) by decide)] at H; exact H
    clear H
    have H := H1
    clear H1
    obtain rfl := Option.some.inj H
    as_aux_lemma =>
      go_enter Try.func4, Try.ntmps4
      go_wp2_with (first | ((with_reducible refine gate_dst (N := 2) rfl ?_); refine box_event ?hg (N := 2) ?hd (cs := #[.int .i64 a0_0, .int .i64 a0_1, .int .i64 a0_2, .string a0_3, .int .i64 a0_4, .int .i64 a0_5, .int .i64 a0_6, .int .i64 a0_7, .int .i32 a0_8, .string a0_9, .int .i64 a0_10, .slice A0_11 l0_11.length c0_11, .int .u32 a0_12, .bool a0_13, .bool a0_14]) (t := 27) ?hr ?_; (case hd => rfl); (case hg => rfl); (case hr => first | (go_simp; done) | (go_simp; rfl)); intro gb275 hg w49 hbox hb; have n0_ := Aside0.mk (below_step (by repeat (first | (with_reducible first | exact HB.out | apply below_alloc | apply pw_below_drewN | apply below_drew1) | exact HB.out)) hb); have n1_ := Aside0.mk (hbox); have n2_ := Aside0.mk ((by rw [hg]; exact (below_size (by repeat (first | (with_reducible first | exact HB.out | apply below_alloc | apply pw_below_drewN | apply below_drew1) | exact HB.out))) : w.heap.size ≤ gb275)); have n3_ := Aside0.mk ((by rw [hg]; exact (below_size (by repeat (first | (with_reducible first | exact HB.out | apply below_alloc | apply pw_below_drewN | apply below_drew1) | exact HB.out))) : w.heap.size ≤ gb275)); clear HB; have HB := n0_; have BK275 := n1_; have GW275 := n2_; have GE275 := n3_; clear n0_ n1_ n2_ n3_; clear hb hbox hg) | ((with_reducible refine gate_callee (f := 7) rfl ?_); refine goesL_ (some 9) rfl rfl Try.func7 (by kernel_rfl) rfl #[] rfl (by (try simp only [List.map_toArray, List.map_cons, List.map_nil]); first | done | rfl | (simp only [List.length_drop, List.length_take]; rfl)) ?_; (with_reducible refine (typecaselaw18_awake.calls k  false _ A3.out).mono ?_); rintro e w50 ⟨rfl, hb⟩; refine ⟨_, rfl, ?_⟩; have n0_ := Aside0.mk (blk_below (g := gb275) (o := .cells #[.int .i64 a0_0, .int .i64 a0_1, .int .i64 a0_2, .string a0_3, .int .i64 a0_4, .int .i64 a0_5, .int .i64 a0_6, .int .i64 a0_7, .int .i32 a0_8, .string a0_9, .int .i64 a0_10, .slice A0_11 l0_11.length c0_11, .int .u32 a0_12, .bool a0_13, .bool a0_14] 27 (0, 0)) (by (with_reducible repeat (first | refine blk_drewN ?_ _ | refine blk_drew ?_ | refine blk_alloc ?_ _)); exact BK275.out) hb); have n1_ := Aside0.mk (below_step (by repeat (first | (with_reducible first | exact HB.out | apply below_alloc | apply pw_below_drewN | apply below_drew1 | refine below_set ?_ GE275.out) | exact HB.out)) hb); clear BK275; clear HB; have BK275 := n0_; have HB := n1_; clear n0_ n1_; (try clear hb); (try clear hb2); (try clear hk); (try clear hi)))
      go_ret
      exact ⟨by first | rfl | (simp [errW_none, errW_some] <;> rfl) | (simp [*, errW_none, errW_some] <;> rfl), by repeat (first | (with_reducible first | exact HB.out | apply below_alloc | apply pw_below_drewN | apply below_drew1 | refine below_set ?_ GE275.out) | exact HB.out)⟩

end Go.Proofs.Ytbpihhggeakhoaa.PTwo
