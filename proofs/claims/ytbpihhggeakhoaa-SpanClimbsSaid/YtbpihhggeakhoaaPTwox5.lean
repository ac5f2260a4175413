-- Written by wip/tools/fprint.py: the kit's print.py, run with functions of this session's own put in. Not trusted: Lean checks it.
import Derived.Test.YtbpihhggeakhoaaPTwox0
import Derived.Test.YtbpihhggeakhoaaPTwox4
namespace Go.Proofs.Ytbpihhggeakhoaa.PTwo
open Go.RowKit Go.Proofs.YtbpihhggeakhoaaW.PrintWords Go.Proofs.YtbpihhggeakhoaaW.PrintLast Go.Proofs.YtbpihhggeakhoaaW.PrintMore
attribute [local go_sem] max2_int min2_int max_two min_two max_three min_three max_four min_four   -- for this text's walks alone
set_option linter.unusedVariables false
set_option linter.unusedSimpArgs false

/-! ### span_Reaches: function 8 -/
def span_Reaches.j0 : Nat → Int → Int → Bool → Int → Int → Int → ByteArray → Int → Int → Int → Int → Int → ByteArray → Int → List (S86) → Int → Bool → Bool → Option (Bool)
  | 0, _, _, _, _, _, _, _, _, _, _, _, _, _, _, _, _, _, _ => none
  | k + 1, x1, x2, x12, x189000, x189001, x189002, x189003, x189004, x189005, x189006, x189007, x189008, x189009, x189010, x189011, x189012, x189013, x189014 => if x12 = true then ((span_Classes.f k x189000 x189001 x189002 x189003 x189004 x189005 x189006 x189007 x189008 x189009 x189010 x189011 x189012 x189013 x189014).bind fun t189 => ((slices_Contains_int_int.f k t189 x1).bind fun t192 => (if t192 = true then (if x189000 = 4 then (if x1 = 2 then ((word_Fits.f x2 9).bind fun t193 => (some t193)) else (if x1 = 4 then ((word_Fits.f x2 13).bind fun t194 => (some t194)) else ((word_Fits.f (wrap32 (x2 - 4)) 21).bind fun t195 => (some t195)))) else (if x1 = 2 then ((word_Fits.f x2 12).bind fun t196 => (some t196)) else (if x1 = 4 then ((word_Fits.f x2 21).bind fun t197 => (some t197)) else (some true)))) else (some false)))) else (some false)
def span_Reaches.f (k : Nat) (a0_0 : Int) (a0_1 : Int) (a0_2 : Int) (a0_3 : ByteArray) (a0_4 : Int) (a0_5 : Int) (a0_6 : Int) (a0_7 : Int) (a0_8 : Int) (a0_9 : ByteArray) (a0_10 : Int) (l0_11 : List (S86)) (a0_12 : Int) (a0_13 : Bool) (a0_14 : Bool) (a1 : Int) (a2 : Int) : Option (Bool) := if (Int.tmod a2 2) = 0 then (if a0_0 = 4 then (span_Reaches.j0 k a1 a2 (a0_0 == 4) a0_0 a0_1 a0_2 a0_3 a0_4 a0_5 a0_6 a0_7 a0_8 a0_9 a0_10 l0_11 a0_12 a0_13 a0_14) else (if a0_0 = 5 then (span_Reaches.j0 k a1 a2 (a0_0 == 5) a0_0 a0_1 a0_2 a0_3 a0_4 a0_5 a0_6 a0_7 a0_8 a0_9 a0_10 l0_11 a0_12 a0_13 a0_14) else (span_Reaches.j0 k a1 a2 (a0_0 == 6) a0_0 a0_1 a0_2 a0_3 a0_4 a0_5 a0_6 a0_7 a0_8 a0_9 a0_10 l0_11 a0_12 a0_13 a0_14))) else (some false)
theorem span_Reaches.mono_l : ∀ k, (∀ y0 y1 y2 y3 y4 y5 y6 y7 y8 y9 y10 y11 y12 y13 y14 y15 y16 y17, LeO (span_Reaches.j0 k y0 y1 y2 y3 y4 y5 y6 y7 y8 y9 y10 y11 y12 y13 y14 y15 y16 y17) (span_Reaches.j0 (k + 1) y0 y1 y2 y3 y4 y5 y6 y7 y8 y9 y10 y11 y12 y13 y14 y15 y16 y17))
  | 0 => fun _ _ _ _ _ _ _ _ _ _ _ _ _ _ _ _ _ _ r h => by simp [span_Reaches.j0] at h
  | k + 1 => by
    have ih0 := span_Reaches.mono_l k
    · intro y0 y1 y2 y3 y4 y5 y6 y7 y8 y9 y10 y11 y12 y13 y14 y15 y16 y17
      unfold span_Reaches.j0
      repeat' first
      | (with_reducible exact ih0 _ _ _ _ _ _ _ _ _ _ _ _ _ _ _ _ _ _)
      | (with_reducible exact slices_Contains_int_int.mono _ _ _)
      | (with_reducible exact span_Classes.mono _ _ _ _ _ _ _ _ _ _ _ _ _ _ _ _)
      | (with_reducible exact LeO.refl _)
      | (with_reducible exact LeO.none _)
      | (with_reducible refine LeO.ite ?_ ?_)
      | (with_reducible refine LeO.bind ?_ (fun _ => ?_))
      | exact ih0 _ _ _ _ _ _ _ _ _ _ _ _ _ _ _ _ _ _
      | exact slices_Contains_int_int.mono _ _ _
      | exact span_Classes.mono _ _ _ _ _ _ _ _ _ _ _ _ _ _ _ _
      | exact LeO.none _
      | refine LeO.ite ?_ ?_
      | refine LeO.bind ?_ (fun _ => ?_)
theorem span_Reaches.mono : ∀ a0 a1 a2 a3 a4 a5 a6 a7 a8 a9 a10 a11 a12 a13 a14 a15 a16 k, LeO (span_Reaches.f k a0 a1 a2 a3 a4 a5 a6 a7 a8 a9 a10 a11 a12 a13 a14 a15 a16) (span_Reaches.f (k + 1) a0 a1 a2 a3 a4 a5 a6 a7 a8 a9 a10 a11 a12 a13 a14 a15 a16) := by
  intro a0 a1 a2 a3 a4 a5 a6 a7 a8 a9 a10 a11 a12 a13 a14 a15 a16 k
  have ih0 := span_Reaches.mono_l k
  unfold span_Reaches.f
  repeat' first
      | (with_reducible exact ih0 _ _ _ _ _ _ _ _ _ _ _ _ _ _ _ _ _ _)
      | (with_reducible exact slices_Contains_int_int.mono _ _ _)
      | (with_reducible exact span_Classes.mono _ _ _ _ _ _ _ _ _ _ _ _ _ _ _ _)
      | (with_reducible exact LeO.refl _)
      | (with_reducible exact LeO.none _)
      | (with_reducible refine LeO.ite ?_ ?_)
      | (with_reducible refine LeO.bind ?_ (fun _ => ?_))
      | exact ih0 _ _ _ _ _ _ _ _ _ _ _ _ _ _ _ _ _ _
      | exact slices_Contains_int_int.mono _ _ _
      | exact span_Classes.mono _ _ _ _ _ _ _ _ _ _ _ _ _ _ _ _
      | exact LeO.none _
      | refine LeO.ite ?_ ?_
      | refine LeO.bind ?_ (fun _ => ?_)
set_option maxHeartbeats 8000000 in
set_option maxRecDepth 100000 in
theorem span_Reaches.calls (k : Nat) (a0_0 : Int) (a0_1 : Int) (a0_2 : Int) (a0_3 : ByteArray) (a0_4 : Int) (a0_5 : Int) (a0_6 : Int) (a0_7 : Int) (a0_8 : Int) (a0_9 : ByteArray) (a0_10 : Int) (A0_11 : Option Addr) (c0_11 : Nat) (l0_11 : List (S86)) (a0_12 : Int) (a0_13 : Bool) (a0_14 : Bool) (a1 : Int) (a2 : Int) (r : Bool) (w : World) (hr0_11 : Kd.C k86 w A0_11 l0_11.length l0_11) (hc0_11 : l0_11.length ≤ c0_11) (h : span_Reaches.f k a0_0 a0_1 a0_2 a0_3 a0_4 a0_5 a0_6 a0_7 a0_8 a0_9 a0_10 l0_11 a0_12 a0_13 a0_14 a1 a2 = some r) :
    Calls Try.prog 8 #[.agg #[.int .i64 a0_0, .int .i64 a0_1, .int .i64 a0_2, .string a0_3, .int .i64 a0_4, .int .i64 a0_5, .int .i64 a0_6, .int .i64 a0_7, .int .i32 a0_8, .string a0_9, .int .i64 a0_10, .slice A0_11 l0_11.length c0_11, .int .u32 a0_12, .bool a0_13, .bool a0_14], .int .i64 a1, .int .i32 a2] w fun e w' => e = .returned (.bool r) ∧ Below w.heap.size w w' := by
  have hu27 := Try.underlying27
  have HR0_11 := Aside0.mk hr0_11
  have HC0_11 := Aside0.mk hc0_11
  clear hr0_11 hc0_11
  have HB := Aside0.mk (Below.refl w.heap.size w)
  have H : (if (Int.tmod a2 2) = 0 then (if a0_0 = 4 then (span_Reaches.j0 k a1 a2 (a0_0 == 4) a0_0 a0_1 a0_2 a0_3 a0_4 a0_5 a0_6 a0_7 a0_8 a0_9 a0_10 l0_11 a0_12 a0_13 a0_14) else (if a0_0 = 5 then (span_Reaches.j0 k a1 a2 (a0_0 == 5) a0_0 a0_1 a0_2 a0_3 a0_4 a0_5 a0_6 a0_7 a0_8 a0_9 a0_10 l0_11 a0_12 a0_13 a0_14) else (span_Reaches.j0 k a1 a2 (a0_0 == 6) a0_0 a0_1 a0_2 a0_3 a0_4 a0_5 a0_6 a0_7 a0_8 a0_9 a0_10 l0_11 a0_12 a0_13 a0_14))) else (some false)) = some r := h
  clear h
  by_cases c4 : (Int.tmod a2 2) = 0
  · rw [if_pos c4] at H
    have c4b0 : ((Int.tmod a2 2) == 0) = true := beq_iff_eq.mpr c4
    have c4b1 : ((Int.tmod a2 2) != 0) = false := bne_eq_false_iff_eq.mpr c4
    clear c4
    have HC5 := Aside0.mk H
    clear H
    go_enter Try.func8, Try.ntmps8
    go_upto_if 12 with (first | ((with_reducible refine gate_dst (N := 3) rfl ?_); refine box_event ?hg (N := 3) ?hd (cs := #[.int .i64 a0_0, .int .i64 a0_1, .int .i64 a0_2, .string a0_3, .int .i64 a0_4, .int .i64 a0_5, .int .i64 a0_6, .int .i64 a0_7, .int .i32 a0_8, .string a0_9, .int .i64 a0_10, .slice A0_11 l0_11.length c0_11, .int .u32 a0_12, .bool a0_13, .bool a0_14]) (t := 27) ?hr ?_; (case hd => rfl); (case hg => rfl); (case hr => first | (go_simp; done) | (go_simp; rfl)); intro gb188 hg w6 hbox hb; have n0_ := Aside0.mk (below_step (by repeat (first | (with_reducible first | exact HB.out | apply below_alloc | apply pw_below_drewN | apply below_drew1) | exact HB.out)) hb); have n1_ := Aside0.mk (hbox); have n2_ := Aside0.mk ((by rw [hg]; exact (below_size (by repeat (first | (with_reducible first | exact HB.out | apply below_alloc | apply pw_below_drewN | apply below_drew1) | exact HB.out))) : w.heap.size ≤ gb188)); have n3_ := Aside0.mk ((by rw [hg]; exact (below_size (by repeat (first | (with_reducible first | exact HB.out | apply below_alloc | apply pw_below_drewN | apply below_drew1) | exact HB.out))) : w.heap.size ≤ gb188)); clear HB; have HB := n0_; have BK188 := n1_; have GW188 := n2_; have GE188 := n3_; clear n0_ n1_ n2_ n3_; clear hb hbox hg; have hcz7_0 : w6.cell? ⟨gb188, 0, none⟩ = some (.int .i64 a0_0) := (blk_cell BK188.out 0).trans rfl; have hcz7_1 : w6.cell? ⟨gb188, 1, none⟩ = some (.int .i64 a0_1) := (blk_cell BK188.out 1).trans rfl; have hcz7_2 : w6.cell? ⟨gb188, 2, none⟩ = some (.int .i64 a0_2) := (blk_cell BK188.out 2).trans rfl; have hcz7_3 : w6.cell? ⟨gb188, 3, none⟩ = some (.string a0_3) := (blk_cell BK188.out 3).trans rfl; have hcz7_4 : w6.cell? ⟨gb188, 4, none⟩ = some (.int .i64 a0_4) := (blk_cell BK188.out 4).trans rfl; have hcz7_5 : w6.cell? ⟨gb188, 5, none⟩ = some (.int .i64 a0_5) := (blk_cell BK188.out 5).trans rfl; have hcz7_6 : w6.cell? ⟨gb188, 6, none⟩ = some (.int .i64 a0_6) := (blk_cell BK188.out 6).trans rfl; have hcz7_7 : w6.cell? ⟨gb188, 7, none⟩ = some (.int .i64 a0_7) := (blk_cell BK188.out 7).trans rfl; have hcz7_8 : w6.cell? ⟨gb188, 8, none⟩ = some (.int .i32 a0_8) := (blk_cell BK188.out 8).trans rfl; have hcz7_9 : w6.cell? ⟨gb188, 9, none⟩ = some (.string a0_9) := (blk_cell BK188.out 9).trans rfl; have hcz7_10 : w6.cell? ⟨gb188, 10, none⟩ = some (.int .i64 a0_10) := (blk_cell BK188.out 10).trans rfl; have hcz7_11 : w6.cell? ⟨gb188, 11, none⟩ = some (.slice A0_11 l0_11.length c0_11) := (blk_cell BK188.out 11).trans rfl; have hcz7_12 : w6.cell? ⟨gb188, 12, none⟩ = some (.int .u32 a0_12) := (blk_cell BK188.out 12).trans rfl; have hcz7_13 : w6.cell? ⟨gb188, 13, none⟩ = some (.bool a0_13) := (blk_cell BK188.out 13).trans rfl; have hcz7_14 : w6.cell? ⟨gb188, 14, none⟩ = some (.bool a0_14) := (blk_cell BK188.out 14).trans rfl; have hfz7_0 := blk_frozen BK188.out 0; have hfz7_1 := blk_frozen BK188.out 1; have hfz7_2 := blk_frozen BK188.out 2; have hfz7_3 := blk_frozen BK188.out 3; have hfz7_4 := blk_frozen BK188.out 4; have hfz7_5 := blk_frozen BK188.out 5; have hfz7_6 := blk_frozen BK188.out 6; have hfz7_7 := blk_frozen BK188.out 7; have hfz7_8 := blk_frozen BK188.out 8; have hfz7_9 := blk_frozen BK188.out 9; have hfz7_10 := blk_frozen BK188.out 10; have hfz7_11 := blk_frozen BK188.out 11; have hfz7_12 := blk_frozen BK188.out 12; have hfz7_13 := blk_frozen BK188.out 13; have hfz7_14 := blk_frozen BK188.out 14))
    (try simp only [Act.put, List.setIfInBounds_toArray, List.set_cons_zero, List.set_cons_succ])
    go_cut [12] (fun v12 wc => ∃ (kq : Nat) (x12_4 : Bool), v12 = .bool x12_4 ∧ Aside0 (span_Reaches.j0 kq a1 a2 x12_4 a0_0 a0_1 a0_2 a0_3 a0_4 a0_5 a0_6 a0_7 a0_8 a0_9 a0_10 l0_11 a0_12 a0_13 a0_14 = some r) ∧ Aside0 (kq ≤ k) ∧ Aside0 (wc.heap[gb188]? = some (.cells #[.int .i64 a0_0, .int .i64 a0_1, .int .i64 a0_2, .string a0_3, .int .i64 a0_4, .int .i64 a0_5, .int .i64 a0_6, .int .i64 a0_7, .int .i32 a0_8, .string a0_9, .int .i64 a0_10, (.slice A0_11 l0_11.length c0_11), .int .u32 a0_12, .bool a0_13, .bool a0_14] 27 (0, 0))) ∧ Aside0 (Below w.heap.size w wc))
    case first =>
      have H := HC5.out
      clear HC5
      by_cases c8 : a0_0 = 4
      · rw [if_pos c8] at H
        have c8b0 : (a0_0 == 4) = true := beq_iff_eq.mpr c8
        have c8b1 : (a0_0 != 4) = false := bne_eq_false_iff_eq.mpr c8
        clear c8
        (first | rw [c8b0] | (simp only [i64_w, i32_w]; rw [c8b0]) | skip)
        have H' := Aside0.mk H
        clear H
        go_wp2
        go_meet
        case rel => exact ⟨_, ((a0_0 == 4)), (by first | rfl | (simp; done) | (simp [*]; done)), H', ⟨by first | omega | exact Nat.le_refl _⟩, ⟨by (with_reducible repeat (first | refine blk_drewN ?_ _ | refine blk_drew ?_ | refine blk_alloc ?_ _)); exact BK188.out⟩, ⟨by repeat (first | (with_reducible first | exact HB.out | apply below_alloc | apply pw_below_drewN | apply below_drew1 | refine below_set ?_ GE188.out) | exact HB.out)⟩⟩
      · rw [if_neg c8] at H
        have c8b0 : (a0_0 == 4) = false := beq_eq_false_iff_ne.mpr c8
        have c8b1 : (a0_0 != 4) = true := bne_iff_ne.mpr c8
        (first | rw [c8b0] | (simp only [i64_w, i32_w]; rw [c8b0]) | skip)
        by_cases c9 : a0_0 = 5
        · rw [if_pos c9] at H
          have c9b0 : (a0_0 == 5) = true := beq_iff_eq.mpr c9
          have c9b1 : (a0_0 != 5) = false := bne_eq_false_iff_eq.mpr c9
          clear c9
          have H' := Aside0.mk H
          clear H
          go_wp2
          go_meet
          case rel => exact ⟨_, ((a0_0 == 5)), (by first | rfl | (simp; done) | (simp [*]; done)), H', ⟨by first | omega | exact Nat.le_refl _⟩, ⟨by (with_reducible repeat (first | refine blk_drewN ?_ _ | refine blk_drew ?_ | refine blk_alloc ?_ _)); exact BK188.out⟩, ⟨by repeat (first | (with_reducible first | exact HB.out | apply below_alloc | apply pw_below_drewN | apply below_drew1 | refine below_set ?_ GE188.out) | exact HB.out)⟩⟩
        · rw [if_neg c9] at H
          have c9b0 : (a0_0 == 5) = false := beq_eq_false_iff_ne.mpr c9
          have c9b1 : (a0_0 != 5) = true := bne_iff_ne.mpr c9
          have H' := Aside0.mk H
          clear H
          go_wp2
          go_meet
          case rel => exact ⟨_, ((a0_0 == 6)), (by first | rfl | (simp; done) | (simp [*]; done)), H', ⟨by first | omega | exact Nat.le_refl _⟩, ⟨by (with_reducible repeat (first | refine blk_drewN ?_ _ | refine blk_drew ?_ | refine blk_alloc ?_ _)); exact BK188.out⟩, ⟨by repeat (first | (with_reducible first | exact HB.out | apply below_alloc | apply pw_below_drewN | apply below_drew1 | refine below_set ?_ GE188.out) | exact HB.out)⟩⟩
    case rest =>
      clear HC5
      try clear p2
      try clear c4
      try clear c4b0
      try clear c4b1
      try clear c8
      try clear c8b0
      try clear c8b1
      try clear c9
      try clear c9b0
      try clear c9b1
      try clear hcz7_0 hcz7_1 hcz7_10 hcz7_11 hcz7_12 hcz7_13 hcz7_14 hcz7_2 hcz7_3 hcz7_4 hcz7_5 hcz7_6 hcz7_7 hcz7_8 hcz7_9 hfz7_0 hfz7_1 hfz7_10 hfz7_11 hfz7_12 hfz7_13 hfz7_14 hfz7_2 hfz7_3 hfz7_4 hfz7_5 hfz7_6 hfz7_7 hfz7_8 hfz7_9
      obtain ⟨kq, x12_4, rfl, HA, HJ4, BK188, HB⟩ := hcut
      cases kq with
      | zero => exact absurd HA.out (by simp [span_Reaches.j0])
      | succ kj4 =>
        have H := HA.out
        clear HA
        simp only [span_Reaches.j0] at H
        by_cases c10 : x12_4 = true
        · subst c10
          have H1 : ((span_Classes.f kj4 a0_0 a0_1 a0_2 a0_3 a0_4 a0_5 a0_6 a0_7 a0_8 a0_9 a0_10 l0_11 a0_12 a0_13 a0_14).bind fun t189 => ((slices_Contains_int_int.f kj4 t189 a1).bind fun t192 => (if t192 = true then (if a0_0 = 4 then (if a1 = 2 then ((word_Fits.f a2 9).bind fun t193 => (some t193)) else (if a1 = 4 then ((word_Fits.f a2 13).bind fun t194 => (some t194)) else ((word_Fits.f (wrap32 (a2 - 4)) 21).bind fun t195 => (some t195)))) else (if a1 = 2 then ((word_Fits.f a2 12).bind fun t196 => (some t196)) else (if a1 = 4 then ((word_Fits.f a2 21).bind fun t197 => (some t197)) else (some true)))) else (some false)))) = some r := by rw [if_pos rfl] at H; exact H
          clear H
          have H := H1
          clear H1
          replace H := Option.bind_eq_some_iff.mp H
          obtain ⟨t189, A110, H⟩ := H
          replace H : ((slices_Contains_int_int.f kj4 t189 a1).bind fun t192 => (if t192 = true then (if a0_0 = 4 then (if a1 = 2 then ((word_Fits.f a2 9).bind fun t193 => (some t193)) else (if a1 = 4 then ((word_Fits.f a2 13).bind fun t194 => (some t194)) else ((word_Fits.f (wrap32 (a2 - 4)) 21).bind fun t195 => (some t195)))) else (if a1 = 2 then ((word_Fits.f a2 12).bind fun t196 => (some t196)) else (if a1 = 4 then ((word_Fits.f a2 21).bind fun t197 => (some t197)) else (some true)))) else (some false))) = some r := H
          have A11 := Aside0.mk A110
          clear A110
          replace H := Option.bind_eq_some_iff.mp H
          obtain ⟨t192, A120, H⟩ := H
          replace H : (if t192 = true then (if a0_0 = 4 then (if a1 = 2 then ((word_Fits.f a2 9).bind fun t193 => (some t193)) else (if a1 = 4 then ((word_Fits.f a2 13).bind fun t194 => (some t194)) else ((word_Fits.f (wrap32 (a2 - 4)) 21).bind fun t195 => (some t195)))) else (if a1 = 2 then ((word_Fits.f a2 12).bind fun t196 => (some t196)) else (if a1 = 4 then ((word_Fits.f a2 21).bind fun t197 => (some t197)) else (some true)))) else (some false)) = some r := H
          have A12 := Aside0.mk A120
          clear A120
          by_cases c13 : t192 = true
          · subst c13
            have H1 : (if a0_0 = 4 then (if a1 = 2 then ((word_Fits.f a2 9).bind fun t193 => (some t193)) else (if a1 = 4 then ((word_Fits.f a2 13).bind fun t194 => (some t194)) else ((word_Fits.f (wrap32 (a2 - 4)) 21).bind fun t195 => (some t195)))) else (if a1 = 2 then ((word_Fits.f a2 12).bind fun t196 => (some t196)) else (if a1 = 4 then ((word_Fits.f a2 21).bind fun t197 => (some t197)) else (some true)))) = some r := by rw [if_pos rfl] at H; exact H
            clear H
            have H := H1
            clear H1
            by_cases c14 : a0_0 = 4
            · rw [if_pos c14] at H
              have c14b0 : (a0_0 == 4) = true := beq_iff_eq.mpr c14
              have c14b1 : (a0_0 != 4) = false := bne_eq_false_iff_eq.mpr c14
              clear c14
              by_cases c15 : a1 = 2
              · rw [if_pos c15] at H
                have c15b0 : (a1 == 2) = true := beq_iff_eq.mpr c15
                have c15b1 : (a1 != 2) = false := bne_eq_false_iff_eq.mpr c15
                clear c15
                replace H := Option.bind_eq_some_iff.mp H
                obtain ⟨t193, A160, H⟩ := H
                replace H : (some t193) = some r := H
                have A16 := Aside0.mk A160
                clear A160
                obtain rfl := Option.some.inj H
                have hcz17_0 : wc.cell? ⟨gb188, 0, none⟩ = some (.int .i64 a0_0) := (blk_cell BK188.out 0).trans rfl
                have hcz17_1 : wc.cell? ⟨gb188, 1, none⟩ = some (.int .i64 a0_1) := (blk_cell BK188.out 1).trans rfl
                have hcz17_2 : wc.cell? ⟨gb188, 2, none⟩ = some (.int .i64 a0_2) := (blk_cell BK188.out 2).trans rfl
                have hcz17_3 : wc.cell? ⟨gb188, 3, none⟩ = some (.string a0_3) := (blk_cell BK188.out 3).trans rfl
                have hcz17_4 : wc.cell? ⟨gb188, 4, none⟩ = some (.int .i64 a0_4) := (blk_cell BK188.out 4).trans rfl
                have hcz17_5 : wc.cell? ⟨gb188, 5, none⟩ = some (.int .i64 a0_5) := (blk_cell BK188.out 5).trans rfl
                have hcz17_6 : wc.cell? ⟨gb188, 6, none⟩ = some (.int .i64 a0_6) := (blk_cell BK188.out 6).trans rfl
                have hcz17_7 : wc.cell? ⟨gb188, 7, none⟩ = some (.int .i64 a0_7) := (blk_cell BK188.out 7).trans rfl
                have hcz17_8 : wc.cell? ⟨gb188, 8, none⟩ = some (.int .i32 a0_8) := (blk_cell BK188.out 8).trans rfl
                have hcz17_9 : wc.cell? ⟨gb188, 9, none⟩ = some (.string a0_9) := (blk_cell BK188.out 9).trans rfl
                have hcz17_10 : wc.cell? ⟨gb188, 10, none⟩ = some (.int .i64 a0_10) := (blk_cell BK188.out 10).trans rfl
                have hcz17_11 : wc.cell? ⟨gb188, 11, none⟩ = some (.slice A0_11 l0_11.length c0_11) := (blk_cell BK188.out 11).trans rfl
                have hcz17_12 : wc.cell? ⟨gb188, 12, none⟩ = some (.int .u32 a0_12) := (blk_cell BK188.out 12).trans rfl
                have hcz17_13 : wc.cell? ⟨gb188, 13, none⟩ = some (.bool a0_13) := (blk_cell BK188.out 13).trans rfl
                have hcz17_14 : wc.cell? ⟨gb188, 14, none⟩ = some (.bool a0_14) := (blk_cell BK188.out 14).trans rfl
                have hfz17_0 := blk_frozen BK188.out 0
                have hfz17_1 := blk_frozen BK188.out 1
                have hfz17_2 := blk_frozen BK188.out 2
                have hfz17_3 := blk_frozen BK188.out 3
                have hfz17_4 := blk_frozen BK188.out 4
                have hfz17_5 := blk_frozen BK188.out 5
                have hfz17_6 := blk_frozen BK188.out 6
                have hfz17_7 := blk_frozen BK188.out 7
                have hfz17_8 := blk_frozen BK188.out 8
                have hfz17_9 := blk_frozen BK188.out 9
                have hfz17_10 := blk_frozen BK188.out 10
                have hfz17_11 := blk_frozen BK188.out 11
                have hfz17_12 := blk_frozen BK188.out 12
                have hfz17_13 := blk_frozen BK188.out 13
                have hfz17_14 := blk_frozen BK188.out 14
                go_wp2_with (first | ((with_reducible refine gate_callee (f := 13) rfl ?_); refine goesL_ (some 17) rfl rfl Try.func13 (by kernel_rfl) rfl #[.agg #[.int .i64 a0_0, .int .i64 a0_1, .int .i64 a0_2, .string a0_3, .int .i64 a0_4, .int .i64 a0_5, .int .i64 a0_6, .int .i64 a0_7, .int .i32 a0_8, .string a0_9, .int .i64 a0_10, .slice A0_11 l0_11.length c0_11, .int .u32 a0_12, .bool a0_13, .bool a0_14]] rfl (by (try simp only [List.map_toArray, List.map_cons, List.map_nil]); first | done | rfl | (simp only [List.length_drop, List.length_take]; rfl)) ?_; (with_reducible refine (span_Classes.calls kj4 a0_0 a0_1 a0_2 a0_3 a0_4 a0_5 a0_6 a0_7 a0_8 a0_9 a0_10 _ _ l0_11 a0_12 a0_13 a0_14 t189 _ ?side1 ?side2 A11.out).mono ?_); (case side1 => repeat (first | exact (Kd.C_below HR0_11.out HB.out) | (with_reducible refine Kd.C_alloc ?_ _) | (with_reducible refine Kd.C_drewN ?_ _) | (with_reducible refine Kd.C_drew ?_))); (case side2 => exact HC0_11.out); rintro e w18 ⟨v190, rfl, ho0, hb⟩; refine ⟨_, rfl, ?_⟩; have n0_ := Aside0.mk (Kd.R_lower ho0 (below_size (by repeat (first | (with_reducible first | exact HB.out | apply below_alloc | apply pw_below_drewN | apply below_drew1 | refine below_set ?_ GE188.out) | exact HB.out)))); have n1_ := Aside0.mk (blk_below (g := gb188) (o := .cells #[.int .i64 a0_0, .int .i64 a0_1, .int .i64 a0_2, .string a0_3, .int .i64 a0_4, .int .i64 a0_5, .int .i64 a0_6, .int .i64 a0_7, .int .i32 a0_8, .string a0_9, .int .i64 a0_10, .slice A0_11 l0_11.length c0_11, .int .u32 a0_12, .bool a0_13, .bool a0_14] 27 (0, 0)) (by (with_reducible repeat (first | refine blk_drewN ?_ _ | refine blk_drew ?_ | refine blk_alloc ?_ _)); exact BK188.out) hb); have n2_ := Aside0.mk (below_step (by repeat (first | (with_reducible first | exact HB.out | apply below_alloc | apply pw_below_drewN | apply below_drew1 | refine below_set ?_ GE188.out) | exact HB.out)) hb); clear BK188; clear HB; have HO191 := n0_; have BK188 := n1_; have HB := n2_; clear n0_ n1_ n2_; (try clear hb); (try clear hb2); (try clear hk); (try clear hi); (try clear ho0); obtain ⟨Ao19, co19, eo19⟩ := Kd.R_slice HO191.out; subst eo19) | ((with_reducible refine gate_callee (f := 15) rfl ?_); refine goesL_ (some 19) rfl rfl Try.func15 (by kernel_rfl) rfl #[.slice Ao19 t189.length co19, .int .i64 a1] rfl (by (try simp only [List.map_toArray, List.map_cons, List.map_nil]); first | done | rfl | (simp only [List.length_drop, List.length_take]; rfl)) ?_; (with_reducible refine (slices_Contains_int_int.calls kj4 _ _ t189 a1 true _ ?side1 ?side2 A12.out).mono ?_); (case side1 => repeat (first | exact (Kd.R_reads' HO191.out).2.2 | (with_reducible refine Kd.C_alloc ?_ _) | (with_reducible refine Kd.C_drewN ?_ _) | (with_reducible refine Kd.C_drew ?_))); (case side2 => exact (Kd.R_reads' HO191.out).2.1); rintro e w' ⟨rfl, ⟨nd, rfl⟩⟩; refine ⟨_, rfl, ?_⟩; have hcz20_0 : w18.cell? ⟨gb188, 0, none⟩ = some (.int .i64 a0_0) := (blk_cell BK188.out 0).trans rfl; have hcz20_1 : w18.cell? ⟨gb188, 1, none⟩ = some (.int .i64 a0_1) := (blk_cell BK188.out 1).trans rfl; have hcz20_2 : w18.cell? ⟨gb188, 2, none⟩ = some (.int .i64 a0_2) := (blk_cell BK188.out 2).trans rfl; have hcz20_3 : w18.cell? ⟨gb188, 3, none⟩ = some (.string a0_3) := (blk_cell BK188.out 3).trans rfl; have hcz20_4 : w18.cell? ⟨gb188, 4, none⟩ = some (.int .i64 a0_4) := (blk_cell BK188.out 4).trans rfl; have hcz20_5 : w18.cell? ⟨gb188, 5, none⟩ = some (.int .i64 a0_5) := (blk_cell BK188.out 5).trans rfl; have hcz20_6 : w18.cell? ⟨gb188, 6, none⟩ = some (.int .i64 a0_6) := (blk_cell BK188.out 6).trans rfl; have hcz20_7 : w18.cell? ⟨gb188, 7, none⟩ = some (.int .i64 a0_7) := (blk_cell BK188.out 7).trans rfl; have hcz20_8 : w18.cell? ⟨gb188, 8, none⟩ = some (.int .i32 a0_8) := (blk_cell BK188.out 8).trans rfl; have hcz20_9 : w18.cell? ⟨gb188, 9, none⟩ = some (.string a0_9) := (blk_cell BK188.out 9).trans rfl; have hcz20_10 : w18.cell? ⟨gb188, 10, none⟩ = some (.int .i64 a0_10) := (blk_cell BK188.out 10).trans rfl; have hcz20_11 : w18.cell? ⟨gb188, 11, none⟩ = some (.slice A0_11 l0_11.length c0_11) := (blk_cell BK188.out 11).trans rfl; have hcz20_12 : w18.cell? ⟨gb188, 12, none⟩ = some (.int .u32 a0_12) := (blk_cell BK188.out 12).trans rfl; have hcz20_13 : w18.cell? ⟨gb188, 13, none⟩ = some (.bool a0_13) := (blk_cell BK188.out 13).trans rfl; have hcz20_14 : w18.cell? ⟨gb188, 14, none⟩ = some (.bool a0_14) := (blk_cell BK188.out 14).trans rfl; have hfz20_0 := blk_frozen BK188.out 0; have hfz20_1 := blk_frozen BK188.out 1; have hfz20_2 := blk_frozen BK188.out 2; have hfz20_3 := blk_frozen BK188.out 3; have hfz20_4 := blk_frozen BK188.out 4; have hfz20_5 := blk_frozen BK188.out 5; have hfz20_6 := blk_frozen BK188.out 6; have hfz20_7 := blk_frozen BK188.out 7; have hfz20_8 := blk_frozen BK188.out 8; have hfz20_9 := blk_frozen BK188.out 9; have hfz20_10 := blk_frozen BK188.out 10; have hfz20_11 := blk_frozen BK188.out 11; have hfz20_12 := blk_frozen BK188.out 12; have hfz20_13 := blk_frozen BK188.out 13; have hfz20_14 := blk_frozen BK188.out 14) | ((with_reducible refine gate_callee (f := 16) rfl ?_); refine goesL_ (some 28) rfl rfl Try.func16 (by kernel_rfl) rfl #[.int .i32 a2, .int .i64 9] rfl (by (try simp only [List.map_toArray, List.map_cons, List.map_nil]); first | done | rfl | (simp only [List.length_drop, List.length_take]; rfl)) ?_; (with_reducible refine (word_Fits.calls a2 9 t193 _ A16.out).mono ?_); rintro e w21 ⟨rfl, hb⟩; refine ⟨_, rfl, ?_⟩; have n0_ := Aside0.mk (Kd.R_below (by (with_reducible repeat (first | apply Kd.R_alloc | apply Kd.R_drewN | apply Kd.R_drew)); exact HO191.out) hb); have n1_ := Aside0.mk (blk_below (g := gb188) (o := .cells #[.int .i64 a0_0, .int .i64 a0_1, .int .i64 a0_2, .string a0_3, .int .i64 a0_4, .int .i64 a0_5, .int .i64 a0_6, .int .i64 a0_7, .int .i32 a0_8, .string a0_9, .int .i64 a0_10, .slice A0_11 l0_11.length c0_11, .int .u32 a0_12, .bool a0_13, .bool a0_14] 27 (0, 0)) (by (with_reducible repeat (first | refine blk_drewN ?_ _ | refine blk_drew ?_ | refine blk_alloc ?_ _)); exact BK188.out) hb); have n2_ := Aside0.mk (below_step (by repeat (first | (with_reducible first | exact HB.out | apply below_alloc | apply pw_below_drewN | apply below_drew1 | refine below_set ?_ GE188.out) | exact HB.out)) hb); clear HO191; clear BK188; clear HB; have HO191 := n0_; have BK188 := n1_; have HB := n2_; clear n0_ n1_ n2_; (try clear hb); (try clear hb2); (try clear hk); (try clear hi)))
                go_ret
                exact ⟨by first | rfl | (simp [errW_none, errW_some] <;> rfl) | (simp [*, errW_none, errW_some] <;> rfl), by repeat (first | (with_reducible first | exact HB.out | apply below_alloc | apply pw_below_drewN | apply below_drew1 | refine below_set ?_ GE188.out) | exact HB.out)⟩
              · rw [if_neg c15] at H
                have c15b0 : (a1 == 2) = false := beq_eq_false_iff_ne.mpr c15
                have c15b1 : (a1 != 2) = true := bne_iff_ne.mpr c15
                by_cases c22 : a1 = 4
                · rw [if_pos c22] at H
                  have c22b0 : (a1 == 4) = true := beq_iff_eq.mpr c22
                  have c22b1 : (a1 != 4) = false := bne_eq_false_iff_eq.mpr c22
                  clear c22
                  replace H := Option.bind_eq_some_iff.mp H
                  obtain ⟨t194, A230, H⟩ := H
                  replace H : (some t194) = some r := H
                  have A23 := Aside0.mk A230
                  clear A230
                  obtain rfl := Option.some.inj H
                  have hcz24_0 : wc.cell? ⟨gb188, 0, none⟩ = some (.int .i64 a0_0) := (blk_cell BK188.out 0).trans rfl
                  have hcz24_1 : wc.cell? ⟨gb188, 1, none⟩ = some (.int .i64 a0_1) := (blk_cell BK188.out 1).trans rfl
                  have hcz24_2 : wc.cell? ⟨gb188, 2, none⟩ = some (.int .i64 a0_2) := (blk_cell BK188.out 2).trans rfl
                  have hcz24_3 : wc.cell? ⟨gb188, 3, none⟩ = some (.string a0_3) := (blk_cell BK188.out 3).trans rfl
                  have hcz24_4 : wc.cell? ⟨gb188, 4, none⟩ = some (.int .i64 a0_4) := (blk_cell BK188.out 4).trans rfl
                  have hcz24_5 : wc.cell? ⟨gb188, 5, none⟩ = some (.int .i64 a0_5) := (blk_cell BK188.out 5).trans rfl
                  have hcz24_6 : wc.cell? ⟨gb188, 6, none⟩ = some (.int .i64 a0_6) := (blk_cell BK188.out 6).trans rfl
                  have hcz24_7 : wc.cell? ⟨gb188, 7, none⟩ = some (.int .i64 a0_7) := (blk_cell BK188.out 7).trans rfl
                  have hcz24_8 : wc.cell? ⟨gb188, 8, none⟩ = some (.int .i32 a0_8) := (blk_cell BK188.out 8).trans rfl
                  have hcz24_9 : wc.cell? ⟨gb188, 9, none⟩ = some (.string a0_9) := (blk_cell BK188.out 9).trans rfl
                  have hcz24_10 : wc.cell? ⟨gb188, 10, none⟩ = some (.int .i64 a0_10) := (blk_cell BK188.out 10).trans rfl
                  have hcz24_11 : wc.cell? ⟨gb188, 11, none⟩ = some (.slice A0_11 l0_11.length c0_11) := (blk_cell BK188.out 11).trans rfl
                  have hcz24_12 : wc.cell? ⟨gb188, 12, none⟩ = some (.int .u32 a0_12) := (blk_cell BK188.out 12).trans rfl
                  have hcz24_13 : wc.cell? ⟨gb188, 13, none⟩ = some (.bool a0_13) := (blk_cell BK188.out 13).trans rfl
                  have hcz24_14 : wc.cell? ⟨gb188, 14, none⟩ = some (.bool a0_14) := (blk_cell BK188.out 14).trans rfl
                  have hfz24_0 := blk_frozen BK188.out 0
                  have hfz24_1 := blk_frozen BK188.out 1
                  have hfz24_2 := blk_frozen BK188.out 2
                  have hfz24_3 := blk_frozen BK188.out 3
                  have hfz24_4 := blk_frozen BK188.out 4
                  have hfz24_5 := blk_frozen BK188.out 5
                  have hfz24_6 := blk_frozen BK188.out 6
                  have hfz24_7 := blk_frozen BK188.out 7
                  have hfz24_8 := blk_frozen BK188.out 8
                  have hfz24_9 := blk_frozen BK188.out 9
                  have hfz24_10 := blk_frozen BK188.out 10
                  have hfz24_11 := blk_frozen BK188.out 11
                  have hfz24_12 := blk_frozen BK188.out 12
                  have hfz24_13 := blk_frozen BK188.out 13
                  have hfz24_14 := blk_frozen BK188.out 14
                  go_wp2_with (first | ((with_reducible refine gate_callee (f := 13) rfl ?_); refine goesL_ (some 17) rfl rfl Try.func13 (by kernel_rfl) rfl #[.agg #[.int .i64 a0_0, .int .i64 a0_1, .int .i64 a0_2, .string a0_3, .int .i64 a0_4, .int .i64 a0_5, .int .i64 a0_6, .int .i64 a0_7, .int .i32 a0_8, .string a0_9, .int .i64 a0_10, .slice A0_11 l0_11.length c0_11, .int .u32 a0_12, .bool a0_13, .bool a0_14]] rfl (by (try simp only [List.map_toArray, List.map_cons, List.map_nil]); first | done | rfl | (simp only [List.length_drop, List.length_take]; rfl)) ?_; (with_reducible refine (span_Classes.calls kj4 a0_0 a0_1 a0_2 a0_3 a0_4 a0_5 a0_6 a0_7 a0_8 a0_9 a0_10 _ _ l0_11 a0_12 a0_13 a0_14 t189 _ ?side1 ?side2 A11.out).mono ?_); (case side1 => repeat (first | exact (Kd.C_below HR0_11.out HB.out) | (with_reducible refine Kd.C_alloc ?_ _) | (with_reducible refine Kd.C_drewN ?_ _) | (with_reducible refine Kd.C_drew ?_))); (case side2 => exact HC0_11.out); rintro e w25 ⟨v190, rfl, ho0, hb⟩; refine ⟨_, rfl, ?_⟩; have n0_ := Aside0.mk (Kd.R_lower ho0 (below_size (by repeat (first | (with_reducible first | exact HB.out | apply below_alloc | apply pw_below_drewN | apply below_drew1 | refine below_set ?_ GE188.out) | exact HB.out)))); have n1_ := Aside0.mk (blk_below (g := gb188) (o := .cells #[.int .i64 a0_0, .int .i64 a0_1, .int .i64 a0_2, .string a0_3, .int .i64 a0_4, .int .i64 a0_5, .int .i64 a0_6, .int .i64 a0_7, .int .i32 a0_8, .string a0_9, .int .i64 a0_10, .slice A0_11 l0_11.length c0_11, .int .u32 a0_12, .bool a0_13, .bool a0_14] 27 (0, 0)) (by (with_reducible repeat (first | refine blk_drewN ?_ _ | refine blk_drew ?_ | refine blk_alloc ?_ _)); exact BK188.out) hb); have n2_ := Aside0.mk (below_step (by repeat (first | (with_reducible first | exact HB.out | apply below_alloc | apply pw_below_drewN | apply below_drew1 | refine below_set ?_ GE188.out) | exact HB.out)) hb); clear BK188; clear HB; have HO191 := n0_; have BK188 := n1_; have HB := n2_; clear n0_ n1_ n2_; (try clear hb); (try clear hb2); (try clear hk); (try clear hi); (try clear ho0); obtain ⟨Ao26, co26, eo26⟩ := Kd.R_slice HO191.out; subst eo26) | ((with_reducible refine gate_callee (f := 15) rfl ?_); refine goesL_ (some 19) rfl rfl Try.func15 (by kernel_rfl) rfl #[.slice Ao26 t189.length co26, .int .i64 a1] rfl (by (try simp only [List.map_toArray, List.map_cons, List.map_nil]); first | done | rfl | (simp only [List.length_drop, List.length_take]; rfl)) ?_; (with_reducible refine (slices_Contains_int_int.calls kj4 _ _ t189 a1 true _ ?side1 ?side2 A12.out).mono ?_); (case side1 => repeat (first | exact (Kd.R_reads' HO191.out).2.2 | (with_reducible refine Kd.C_alloc ?_ _) | (with_reducible refine Kd.C_drewN ?_ _) | (with_reducible refine Kd.C_drew ?_))); (case side2 => exact (Kd.R_reads' HO191.out).2.1); rintro e w' ⟨rfl, ⟨nd, rfl⟩⟩; refine ⟨_, rfl, ?_⟩; have hcz27_0 : w25.cell? ⟨gb188, 0, none⟩ = some (.int .i64 a0_0) := (blk_cell BK188.out 0).trans rfl; have hcz27_1 : w25.cell? ⟨gb188, 1, none⟩ = some (.int .i64 a0_1) := (blk_cell BK188.out 1).trans rfl; have hcz27_2 : w25.cell? ⟨gb188, 2, none⟩ = some (.int .i64 a0_2) := (blk_cell BK188.out 2).trans rfl; have hcz27_3 : w25.cell? ⟨gb188, 3, none⟩ = some (.string a0_3) := (blk_cell BK188.out 3).trans rfl; have hcz27_4 : w25.cell? ⟨gb188, 4, none⟩ = some (.int .i64 a0_4) := (blk_cell BK188.out 4).trans rfl; have hcz27_5 : w25.cell? ⟨gb188, 5, none⟩ = some (.int .i64 a0_5) := (blk_cell BK188.out 5).trans rfl; have hcz27_6 : w25.cell? ⟨gb188, 6, none⟩ = some (.int .i64 a0_6) := (blk_cell BK188.out 6).trans rfl; have hcz27_7 : w25.cell? ⟨gb188, 7, none⟩ = some (.int .i64 a0_7) := (blk_cell BK188.out 7).trans rfl; have hcz27_8 : w25.cell? ⟨gb188, 8, none⟩ = some (.int .i32 a0_8) := (blk_cell BK188.out 8).trans rfl; have hcz27_9 : w25.cell? ⟨gb188, 9, none⟩ = some (.string a0_9) := (blk_cell BK188.out 9).trans rfl; have hcz27_10 : w25.cell? ⟨gb188, 10, none⟩ = some (.int .i64 a0_10) := (blk_cell BK188.out 10).trans rfl; have hcz27_11 : w25.cell? ⟨gb188, 11, none⟩ = some (.slice A0_11 l0_11.length c0_11) := (blk_cell BK188.out 11).trans rfl; have hcz27_12 : w25.cell? ⟨gb188, 12, none⟩ = some (.int .u32 a0_12) := (blk_cell BK188.out 12).trans rfl; have hcz27_13 : w25.cell? ⟨gb188, 13, none⟩ = some (.bool a0_13) := (blk_cell BK188.out 13).trans rfl; have hcz27_14 : w25.cell? ⟨gb188, 14, none⟩ = some (.bool a0_14) := (blk_cell BK188.out 14).trans rfl; have hfz27_0 := blk_frozen BK188.out 0; have hfz27_1 := blk_frozen BK188.out 1; have hfz27_2 := blk_frozen BK188.out 2; have hfz27_3 := blk_frozen BK188.out 3; have hfz27_4 := blk_frozen BK188.out 4; have hfz27_5 := blk_frozen BK188.out 5; have hfz27_6 := blk_frozen BK188.out 6; have hfz27_7 := blk_frozen BK188.out 7; have hfz27_8 := blk_frozen BK188.out 8; have hfz27_9 := blk_frozen BK188.out 9; have hfz27_10 := blk_frozen BK188.out 10; have hfz27_11 := blk_frozen BK188.out 11; have hfz27_12 := blk_frozen BK188.out 12; have hfz27_13 := blk_frozen BK188.out 13; have hfz27_14 := blk_frozen BK188.out 14) | ((with_reducible refine gate_callee (f := 16) rfl ?_); refine goesL_ (some 32) rfl rfl Try.func16 (by kernel_rfl) rfl #[.int .i32 a2, .int .i64 13] rfl (by (try simp only [List.map_toArray, List.map_cons, List.map_nil]); first | done | rfl | (simp only [List.length_drop, List.length_take]; rfl)) ?_; (with_reducible refine (word_Fits.calls a2 13 t194 _ A23.out).mono ?_); rintro e w28 ⟨rfl, hb⟩; refine ⟨_, rfl, ?_⟩; have n0_ := Aside0.mk (Kd.R_below (by (with_reducible repeat (first | apply Kd.R_alloc | apply Kd.R_drewN | apply Kd.R_drew)); exact HO191.out) hb); have n1_ := Aside0.mk (blk_below (g := gb188) (o := .cells #[.int .i64 a0_0, .int .i64 a0_1, .int .i64 a0_2, .string a0_3, .int .i64 a0_4, .int .i64 a0_5, .int .i64 a0_6, .int .i64 a0_7, .int .i32 a0_8, .string a0_9, .int .i64 a0_10, .slice A0_11 l0_11.length c0_11, .int .u32 a0_12, .bool a0_13, .bool a0_14] 27 (0, 0)) (by (with_reducible repeat (first | refine blk_drewN ?_ _ | refine blk_drew ?_ | refine blk_alloc ?_ _)); exact BK188.out) hb); have n2_ := Aside0.mk (below_step (by repeat (first | (with_reducible first | exact HB.out | apply below_alloc | apply pw_below_drewN | apply below_drew1 | refine below_set ?_ GE188.out) | exact HB.out)) hb); clear HO191; clear BK188; clear HB; have HO191 := n0_; have BK188 := n1_; have HB := n2_; clear n0_ n1_ n2_; (try clear hb); (try clear hb2); (try clear hk); (try clear hi)))
                  go_ret
                  exact ⟨by first | rfl | (simp [errW_none, errW_some] <;> rfl) | (simp [*, errW_none, errW_some] <;> rfl), by repeat (first | (with_reducible first | exact HB.out | apply below_alloc | apply pw_below_drewN | apply below_drew1 | refine below_set ?_ GE188.out) | exact HB.out)⟩
                · rw [if_neg c22] at H
                  have c22b0 : (a1 == 4) = false := beq_eq_false_iff_ne.mpr c22
                  have c22b1 : (a1 != 4) = true := bne_iff_ne.mpr c22
                  replace H := Option.bind_eq_some_iff.mp H
                  obtain ⟨t195, A290, H⟩ := H
                  replace H : (some t195) = some r := H
                  have A29 := Aside0.mk A290
                  clear A290
                  obtain rfl := Option.some.inj H
                  have hcz30_0 : wc.cell? ⟨gb188, 0, none⟩ = some (.int .i64 a0_0) := (blk_cell BK188.out 0).trans rfl
                  have hcz30_1 : wc.cell? ⟨gb188, 1, none⟩ = some (.int .i64 a0_1) := (blk_cell BK188.out 1).trans rfl
                  have hcz30_2 : wc.cell? ⟨gb188, 2, none⟩ = some (.int .i64 a0_2) := (blk_cell BK188.out 2).trans rfl
                  have hcz30_3 : wc.cell? ⟨gb188, 3, none⟩ = some (.string a0_3) := (blk_cell BK188.out 3).trans rfl
                  have hcz30_4 : wc.cell? ⟨gb188, 4, none⟩ = some (.int .i64 a0_4) := (blk_cell BK188.out 4).trans rfl
                  have hcz30_5 : wc.cell? ⟨gb188, 5, none⟩ = some (.int .i64 a0_5) := (blk_cell BK188.out 5).trans rfl
                  have hcz30_6 : wc.cell? ⟨gb188, 6, none⟩ = some (.int .i64 a0_6) := (blk_cell BK188.out 6).trans rfl
                  have hcz30_7 : wc.cell? ⟨gb188, 7, none⟩ = some (.int .i64 a0_7) := (blk_cell BK188.out 7).trans rfl
                  have hcz30_8 : wc.cell? ⟨gb188, 8, none⟩ = some (.int .i32 a0_8) := (blk_cell BK188.out 8).trans rfl
                  have hcz30_9 : wc.cell? ⟨gb188, 9, none⟩ = some (.string a0_9) := (blk_cell BK188.out 9).trans rfl
                  have hcz30_10 : wc.cell? ⟨gb188, 10, none⟩ = some (.int .i64 a0_10) := (blk_cell BK188.out 10).trans rfl
                  have hcz30_11 : wc.cell? ⟨gb188, 11, none⟩ = some (.slice A0_11 l0_11.length c0_11) := (blk_cell BK188.out 11).trans rfl
                  have hcz30_12 : wc.cell? ⟨gb188, 12, none⟩ = some (.int .u32 a0_12) := (blk_cell BK188.out 12).trans rfl
                  have hcz30_13 : wc.cell? ⟨gb188, 13, none⟩ = some (.bool a0_13) := (blk_cell BK188.out 13).trans rfl
                  have hcz30_14 : wc.cell? ⟨gb188, 14, none⟩ = some (.bool a0_14) := (blk_cell BK188.out 14).trans rfl
                  have hfz30_0 := blk_frozen BK188.out 0
                  have hfz30_1 := blk_frozen BK188.out 1
                  have hfz30_2 := blk_frozen BK188.out 2
                  have hfz30_3 := blk_frozen BK188.out 3
                  have hfz30_4 := blk_frozen BK188.out 4
                  have hfz30_5 := blk_frozen BK188.out 5
                  have hfz30_6 := blk_frozen BK188.out 6
                  have hfz30_7 := blk_frozen BK188.out 7
                  have hfz30_8 := blk_frozen BK188.out 8
                  have hfz30_9 := blk_frozen BK188.out 9
                  have hfz30_10 := blk_frozen BK188.out 10
                  have hfz30_11 := blk_frozen BK188.out 11
                  have hfz30_12 := blk_frozen BK188.out 12
                  have hfz30_13 := blk_frozen BK188.out 13
                  have hfz30_14 := blk_frozen BK188.out 14
                  go_wp2_with (first | ((with_reducible refine gate_callee (f := 13) rfl ?_); refine goesL_ (some 17) rfl rfl Try.func13 (by kernel_rfl) rfl #[.agg #[.int .i64 a0_0, .int .i64 a0_1, .int .i64 a0_2, .string a0_3, .int .i64 a0_4, .int .i64 a0_5, .int .i64 a0_6, .int .i64 a0_7, .int .i32 a0_8, .string a0_9, .int .i64 a0_10, .slice A0_11 l0_11.length c0_11, .int .u32 a0_12, .bool a0_13, .bool a0_14]] rfl (by (try simp only [List.map_toArray, List.map_cons, List.map_nil]); first | done | rfl | (simp only [List.length_drop, List.length_take]; rfl)) ?_; (with_reducible refine (span_Classes.calls kj4 a0_0 a0_1 a0_2 a0_3 a0_4 a0_5 a0_6 a0_7 a0_8 a0_9 a0_10 _ _ l0_11 a0_12 a0_13 a0_14 t189 _ ?side1 ?side2 A11.out).mono ?_); (case side1 => repeat (first | exact (Kd.C_below HR0_11.out HB.out) | (with_reducible refine Kd.C_alloc ?_ _) | (with_reducible refine Kd.C_drewN ?_ _) | (with_reducible refine Kd.C_drew ?_))); (case side2 => exact HC0_11.out); rintro e w31 ⟨v190, rfl, ho0, hb⟩; refine ⟨_, rfl, ?_⟩; have n0_ := Aside0.mk (Kd.R_lower ho0 (below_size (by repeat (first | (with_reducible first | exact HB.out | apply below_alloc | apply pw_below_drewN | apply below_drew1 | refine below_set ?_ GE188.out) | exact HB.out)))); have n1_ := Aside0.mk (blk_below (g := gb188) (o := .cells #[.int .i64 a0_0, .int .i64 a0_1, .int .i64 a0_2, .string a0_3, .int .i64 a0_4, .int .i64 a0_5, .int .i64 a0_6, .int .i64 a0_7, .int .i32 a0_8, .string a0_9, .int .i64 a0_10, .slice A0_11 l0_11.length c0_11, .int .u32 a0_12, .bool a0_13, .bool a0_14] 27 (0, 0)) (by (with_reducible repeat (first | refine blk_drewN ?_ _ | refine blk_drew ?_ | refine blk_alloc ?_ _)); exact BK188.out) hb); have n2_ := Aside0.mk (below_step (by repeat (first | (with_reducible first | exact HB.out | apply below_alloc | apply pw_below_drewN | apply below_drew1 | refine below_set ?_ GE188.out) | exact HB.out)) hb); clear BK188; clear HB; have HO191 := n0_; have BK188 := n1_; have HB := n2_; clear n0_ n1_ n2_; (try clear hb); (try clear hb2); (try clear hk); (try clear hi); (try clear ho0); obtain ⟨Ao32, co32, eo32⟩ := Kd.R_slice HO191.out; subst eo32) | ((with_reducible refine gate_callee (f := 15) rfl ?_); refine goesL_ (some 19) rfl rfl Try.func15 (by kernel_rfl) rfl #[.slice Ao32 t189.length co32, .int .i64 a1] rfl (by (try simp only [List.map_toArray, List.map_cons, List.map_nil]); first | done | rfl | (simp only [List.length_drop, List.length_take]; rfl)) ?_; (with_reducible refine (slices_Contains_int_int.calls kj4 _ _ t189 a1 true _ ?side1 ?side2 A12.out).mono ?_); (case side1 => repeat (first | exact (Kd.R_reads' HO191.out).2.2 | (with_reducible refine Kd.C_alloc ?_ _) | (with_reducible refine Kd.C_drewN ?_ _) | (with_reducible refine Kd.C_drew ?_))); (case side2 => exact (Kd.R_reads' HO191.out).2.1); rintro e w' ⟨rfl, ⟨nd, rfl⟩⟩; refine ⟨_, rfl, ?_⟩; have hcz33_0 : w31.cell? ⟨gb188, 0, none⟩ = some (.int .i64 a0_0) := (blk_cell BK188.out 0).trans rfl; have hcz33_1 : w31.cell? ⟨gb188, 1, none⟩ = some (.int .i64 a0_1) := (blk_cell BK188.out 1).trans rfl; have hcz33_2 : w31.cell? ⟨gb188, 2, none⟩ = some (.int .i64 a0_2) := (blk_cell BK188.out 2).trans rfl; have hcz33_3 : w31.cell? ⟨gb188, 3, none⟩ = some (.string a0_3) := (blk_cell BK188.out 3).trans rfl; have hcz33_4 : w31.cell? ⟨gb188, 4, none⟩ = some (.int .i64 a0_4) := (blk_cell BK188.out 4).trans rfl; have hcz33_5 : w31.cell? ⟨gb188, 5, none⟩ = some (.int .i64 a0_5) := (blk_cell BK188.out 5).trans rfl; have hcz33_6 : w31.cell? ⟨gb188, 6, none⟩ = some (.int .i64 a0_6) := (blk_cell BK188.out 6).trans rfl; have hcz33_7 : w31.cell? ⟨gb188, 7, none⟩ = some (.int .i64 a0_7) := (blk_cell BK188.out 7).trans rfl; have hcz33_8 : w31.cell? ⟨gb188, 8, none⟩ = some (.int .i32 a0_8) := (blk_cell BK188.out 8).trans rfl; have hcz33_9 : w31.cell? ⟨gb188, 9, none⟩ = some (.string a0_9) := (blk_cell BK188.out 9).trans rfl; have hcz33_10 : w31.cell? ⟨gb188, 10, none⟩ = some (.int .i64 a0_10) := (blk_cell BK188.out 10).trans rfl; have hcz33_11 : w31.cell? ⟨gb188, 11, none⟩ = some (.slice A0_11 l0_11.length c0_11) := (blk_cell BK188.out 11).trans rfl; have hcz33_12 : w31.cell? ⟨gb188, 12, none⟩ = some (.int .u32 a0_12) := (blk_cell BK188.out 12).trans rfl; have hcz33_13 : w31.cell? ⟨gb188, 13, none⟩ = some (.bool a0_13) := (blk_cell BK188.out 13).trans rfl; have hcz33_14 : w31.cell? ⟨gb188, 14, none⟩ = some (.bool a0_14) := (blk_cell BK188.out 14).trans rfl; have hfz33_0 := blk_frozen BK188.out 0; have hfz33_1 := blk_frozen BK188.out 1; have hfz33_2 := blk_frozen BK188.out 2; have hfz33_3 := blk_frozen BK188.out 3; have hfz33_4 := blk_frozen BK188.out 4; have hfz33_5 := blk_frozen BK188.out 5; have hfz33_6 := blk_frozen BK188.out 6; have hfz33_7 := blk_frozen BK188.out 7; have hfz33_8 := blk_frozen BK188.out 8; have hfz33_9 := blk_frozen BK188.out 9; have hfz33_10 := blk_frozen BK188.out 10; have hfz33_11 := blk_frozen BK188.out 11; have hfz33_12 := blk_frozen BK188.out 12; have hfz33_13 := blk_frozen BK188.out 13; have hfz33_14 := blk_frozen BK188.out 14) | ((with_reducible refine gate_callee (f := 16) rfl ?_); refine goesL_ (some 35) rfl rfl Try.func16 (by kernel_rfl) rfl #[.int .i32 (wrap32 (a2 - 4)), .int .i64 21] rfl (by (try simp only [List.map_toArray, List.map_cons, List.map_nil]); first | done | rfl | (simp only [List.length_drop, List.length_take]; rfl)) ?_; (with_reducible refine (word_Fits.calls (wrap32 (a2 - 4)) 21 t195 _ A29.out).mono ?_); rintro e w34 ⟨rfl, hb⟩; refine ⟨_, rfl, ?_⟩; have n0_ := Aside0.mk (Kd.R_below (by (with_reducible repeat (first | apply Kd.R_alloc | apply Kd.R_drewN | apply Kd.R_drew)); exact HO191.out) hb); have n1_ := Aside0.mk (blk_below (g := gb188) (o := .cells #[.int .i64 a0_0, .int .i64 a0_1, .int .i64 a0_2, .string a0_3, .int .i64 a0_4, .int .i64 a0_5, .int .i64 a0_6, .int .i64 a0_7, .int .i32 a0_8, .string a0_9, .int .i64 a0_10, .slice A0_11 l0_11.length c0_11, .int .u32 a0_12, .bool a0_13, .bool a0_14] 27 (0, 0)) (by (with_reducible repeat (first | refine blk_drewN ?_ _ | refine blk_drew ?_ | refine blk_alloc ?_ _)); exact BK188.out) hb); have n2_ := Aside0.mk (below_step (by repeat (first | (with_reducible first | exact HB.out | apply below_alloc | apply pw_below_drewN | apply below_drew1 | refine below_set ?_ GE188.out) | exact HB.out)) hb); clear HO191; clear BK188; clear HB; have HO191 := n0_; have BK188 := n1_; have HB := n2_; clear n0_ n1_ n2_; (try clear hb); (try clear hb2); (try clear hk); (try clear hi)))
                  go_ret
                  exact ⟨by first | rfl | (simp [errW_none, errW_some] <;> rfl) | (simp [*, errW_none, errW_some] <;> rfl), by repeat (first | (with_reducible first | exact HB.out | apply below_alloc | apply pw_below_drewN | apply below_drew1 | refine below_set ?_ GE188.out) | exact HB.out)⟩
            · rw [if_neg c14] at H
              have c14b0 : (a0_0 == 4) = false := beq_eq_false_iff_ne.mpr c14
              have c14b1 : (a0_0 != 4) = true := bne_iff_ne.mpr c14
              by_cases c35 : a1 = 2
              · rw [if_pos c35] at H
                have c35b0 : (a1 == 2) = true := beq_iff_eq.mpr c35
                have c35b1 : (a1 != 2) = false := bne_eq_false_iff_eq.mpr c35
                clear c35
                replace H := Option.bind_eq_some_iff.mp H
                obtain ⟨t196, A360, H⟩ := H
                replace H : (some t196) = some r := H
                have A36 := Aside0.mk A360
                clear A360
                obtain rfl := Option.some.inj H
                have hcz37_0 : wc.cell? ⟨gb188, 0, none⟩ = some (.int .i64 a0_0) := (blk_cell BK188.out 0).trans rfl
                have hcz37_1 : wc.cell? ⟨gb188, 1, none⟩ = some (.int .i64 a0_1) := (blk_cell BK188.out 1).trans rfl
                have hcz37_2 : wc.cell? ⟨gb188, 2, none⟩ = some (.int .i64 a0_2) := (blk_cell BK188.out 2).trans rfl
                have hcz37_3 : wc.cell? ⟨gb188, 3, none⟩ = some (.string a0_3) := (blk_cell BK188.out 3).trans rfl
                have hcz37_4 : wc.cell? ⟨gb188, 4, none⟩ = some (.int .i64 a0_4) := (blk_cell BK188.out 4).trans rfl
                have hcz37_5 : wc.cell? ⟨gb188, 5, none⟩ = some (.int .i64 a0_5) := (blk_cell BK188.out 5).trans rfl
                have hcz37_6 : wc.cell? ⟨gb188, 6, none⟩ = some (.int .i64 a0_6) := (blk_cell BK188.out 6).trans rfl
                have hcz37_7 : wc.cell? ⟨gb188, 7, none⟩ = some (.int .i64 a0_7) := (blk_cell BK188.out 7).trans rfl
                have hcz37_8 : wc.cell? ⟨gb188, 8, none⟩ = some (.int .i32 a0_8) := (blk_cell BK188.out 8).trans rfl
                have hcz37_9 : wc.cell? ⟨gb188, 9, none⟩ = some (.string a0_9) := (blk_cell BK188.out 9).trans rfl
                have hcz37_10 : wc.cell? ⟨gb188, 10, none⟩ = some (.int .i64 a0_10) := (blk_cell BK188.out 10).trans rfl
                have hcz37_11 : wc.cell? ⟨gb188, 11, none⟩ = some (.slice A0_11 l0_11.length c0_11) := (blk_cell BK188.out 11).trans rfl
                have hcz37_12 : wc.cell? ⟨gb188, 12, none⟩ = some (.int .u32 a0_12) := (blk_cell BK188.out 12).trans rfl
                have hcz37_13 : wc.cell? ⟨gb188, 13, none⟩ = some (.bool a0_13) := (blk_cell BK188.out 13).trans rfl
                have hcz37_14 : wc.cell? ⟨gb188, 14, none⟩ = some (.bool a0_14) := (blk_cell BK188.out 14).trans rfl
                have hfz37_0 := blk_frozen BK188.out 0
                have hfz37_1 := blk_frozen BK188.out 1
                have hfz37_2 := blk_frozen BK188.out 2
                have hfz37_3 := blk_frozen BK188.out 3
                have hfz37_4 := blk_frozen BK188.out 4
                have hfz37_5 := blk_frozen BK188.out 5
                have hfz37_6 := blk_frozen BK188.out 6
                have hfz37_7 := blk_frozen BK188.out 7
                have hfz37_8 := blk_frozen BK188.out 8
                have hfz37_9 := blk_frozen BK188.out 9
                have hfz37_10 := blk_frozen BK188.out 10
                have hfz37_11 := blk_frozen BK188.out 11
                have hfz37_12 := blk_frozen BK188.out 12
                have hfz37_13 := blk_frozen BK188.out 13
                have hfz37_14 := blk_frozen BK188.out 14
                go_wp2_with (first | ((with_reducible refine gate_callee (f := 13) rfl ?_); refine goesL_ (some 17) rfl rfl Try.func13 (by kernel_rfl) rfl #[.agg #[.int .i64 a0_0, .int .i64 a0_1, .int .i64 a0_2, .string a0_3, .int .i64 a0_4, .int .i64 a0_5, .int .i64 a0_6, .int .i64 a0_7, .int .i32 a0_8, .string a0_9, .int .i64 a0_10, .slice A0_11 l0_11.length c0_11, .int .u32 a0_12, .bool a0_13, .bool a0_14]] rfl (by (try simp only [List.map_toArray, List.map_cons, List.map_nil]); first | done | rfl | (simp only [List.length_drop, List.length_take]; rfl)) ?_; (with_reducible refine (span_Classes.calls kj4 a0_0 a0_1 a0_2 a0_3 a0_4 a0_5 a0_6 a0_7 a0_8 a0_9 a0_10 _ _ l0_11 a0_12 a0_13 a0_14 t189 _ ?side1 ?side2 A11.out).mono ?_); (case side1 => repeat (first | exact (Kd.C_below HR0_11.out HB.out) | (with_reducible refine Kd.C_alloc ?_ _) | (with_reducible refine Kd.C_drewN ?_ _) | (with_reducible refine Kd.C_drew ?_))); (case side2 => exact HC0_11.out); rintro e w38 ⟨v190, rfl, ho0, hb⟩; refine ⟨_, rfl, ?_⟩; have n0_ := Aside0.mk (Kd.R_lower ho0 (below_size (by repeat (first | (with_reducible first | exact HB.out | apply below_alloc | apply pw_below_drewN | apply below_drew1 | refine below_set ?_ GE188.out) | exact HB.out)))); have n1_ := Aside0.mk (blk_below (g := gb188) (o := .cells #[.int .i64 a0_0, .int .i64 a0_1, .int .i64 a0_2, .string a0_3, .int .i64 a0_4, .int .i64 a0_5, .int .i64 a0_6, .int .i64 a0_7, .int .i32 a0_8, .string a0_9, .int .i64 a0_10, .slice A0_11 l0_11.length c0_11, .int .u32 a0_12, .bool a0_13, .bool a0_14] 27 (0, 0)) (by (with_reducible repeat (first | refine blk_drewN ?_ _ | refine blk_drew ?_ | refine blk_alloc ?_ _)); exact BK188.out) hb); have n2_ := Aside0.mk (below_step (by repeat (first | (with_reducible first | exact HB.out | apply below_alloc | apply pw_below_drewN | apply below_drew1 | refine below_set ?_ GE188.out) | exact HB.out)) hb); clear BK188; clear HB; have HO191 := n0_; have BK188 := n1_; have HB := n2_; clear n0_ n1_ n2_; (try clear hb); (try clear hb2); (try clear hk); (try clear hi); (try clear ho0); obtain ⟨Ao39, co39, eo39⟩ := Kd.R_slice HO191.out; subst eo39) | ((with_reducible refine gate_callee (f := 15) rfl ?_); refine goesL_ (some 19) rfl rfl Try.func15 (by kernel_rfl) rfl #[.slice Ao39 t189.length co39, .int .i64 a1] rfl (by (try simp only [List.map_toArray, List.map_cons, List.map_nil]); first | done | rfl | (simp only [List.length_drop, List.length_take]; rfl)) ?_; (with_reducible refine (slices_Contains_int_int.calls kj4 _ _ t189 a1 true _ ?side1 ?side2 A12.out).mono ?_); (case side1 => repeat (first | exact (Kd.R_reads' HO191.out).2.2 | (with_reducible refine Kd.C_alloc ?_ _) | (with_reducible refine Kd.C_drewN ?_ _) | (with_reducible refine Kd.C_drew ?_))); (case side2 => exact (Kd.R_reads' HO191.out).2.1); rintro e w' ⟨rfl, ⟨nd, rfl⟩⟩; refine ⟨_, rfl, ?_⟩; have hcz40_0 : w38.cell? ⟨gb188, 0, none⟩ = some (.int .i64 a0_0) := (blk_cell BK188.out 0).trans rfl; have hcz40_1 : w38.cell? ⟨gb188, 1, none⟩ = some (.int .i64 a0_1) := (blk_cell BK188.out 1).trans rfl; have hcz40_2 : w38.cell? ⟨gb188, 2, none⟩ = some (.int .i64 a0_2) := (blk_cell BK188.out 2).trans rfl; have hcz40_3 : w38.cell? ⟨gb188, 3, none⟩ = some (.string a0_3) := (blk_cell BK188.out 3).trans rfl; have hcz40_4 : w38.cell? ⟨gb188, 4, none⟩ = some (.int .i64 a0_4) := (blk_cell BK188.out 4).trans rfl; have hcz40_5 : w38.cell? ⟨gb188, 5, none⟩ = some (.int .i64 a0_5) := (blk_cell BK188.out 5).trans rfl; have hcz40_6 : w38.cell? ⟨gb188, 6, none⟩ = some (.int .i64 a0_6) := (blk_cell BK188.out 6).trans rfl; have hcz40_7 : w38.cell? ⟨gb188, 7, none⟩ = some (.int .i64 a0_7) := (blk_cell BK188.out 7).trans rfl; have hcz40_8 : w38.cell? ⟨gb188, 8, none⟩ = some (.int .i32 a0_8) := (blk_cell BK188.out 8).trans rfl; have hcz40_9 : w38.cell? ⟨gb188, 9, none⟩ = some (.string a0_9) := (blk_cell BK188.out 9).trans rfl; have hcz40_10 : w38.cell? ⟨gb188, 10, none⟩ = some (.int .i64 a0_10) := (blk_cell BK188.out 10).trans rfl; have hcz40_11 : w38.cell? ⟨gb188, 11, none⟩ = some (.slice A0_11 l0_11.length c0_11) := (blk_cell BK188.out 11).trans rfl; have hcz40_12 : w38.cell? ⟨gb188, 12, none⟩ = some (.int .u32 a0_12) := (blk_cell BK188.out 12).trans rfl; have hcz40_13 : w38.cell? ⟨gb188, 13, none⟩ = some (.bool a0_13) := (blk_cell BK188.out 13).trans rfl; have hcz40_14 : w38.cell? ⟨gb188, 14, none⟩ = some (.bool a0_14) := (blk_cell BK188.out 14).trans rfl; have hfz40_0 := blk_frozen BK188.out 0; have hfz40_1 := blk_frozen BK188.out 1; have hfz40_2 := blk_frozen BK188.out 2; have hfz40_3 := blk_frozen BK188.out 3; have hfz40_4 := blk_frozen BK188.out 4; have hfz40_5 := blk_frozen BK188.out 5; have hfz40_6 := blk_frozen BK188.out 6; have hfz40_7 := blk_frozen BK188.out 7; have hfz40_8 := blk_frozen BK188.out 8; have hfz40_9 := blk_frozen BK188.out 9; have hfz40_10 := blk_frozen BK188.out 10; have hfz40_11 := blk_frozen BK188.out 11; have hfz40_12 := blk_frozen BK188.out 12; have hfz40_13 := blk_frozen BK188.out 13; have hfz40_14 := blk_frozen BK188.out 14) | ((with_reducible refine gate_callee (f := 16) rfl ?_); refine goesL_ (some 40) rfl rfl Try.func16 (by kernel_rfl) rfl #[.int .i32 a2, .int .i64 12] rfl (by (try simp only [List.map_toArray, List.map_cons, List.map_nil]); first | done | rfl | (simp only [List.length_drop, List.length_take]; rfl)) ?_; (with_reducible refine (word_Fits.calls a2 12 t196 _ A36.out).mono ?_); rintro e w41 ⟨rfl, hb⟩; refine ⟨_, rfl, ?_⟩; have n0_ := Aside0.mk (Kd.R_below (by (with_reducible repeat (first | apply Kd.R_alloc | apply Kd.R_drewN | apply Kd.R_drew)); exact HO191.out) hb); have n1_ := Aside0.mk (blk_below (g := gb188) (o := .cells #[.int .i64 a0_0, .int .i64 a0_1, .int .i64 a0_2, .string a0_3, .int .i64 a0_4, .int .i64 a0_5, .int .i64 a0_6, .int .i64 a0_7, .int .i32 a0_8, .string a0_9, .int .i64 a0_10, .slice A0_11 l0_11.length c0_11, .int .u32 a0_12, .bool a0_13, .bool a0_14] 27 (0, 0)) (by (with_reducible repeat (first | refine blk_drewN ?_ _ | refine blk_drew ?_ | refine blk_alloc ?_ _)); exact BK188.out) hb); have n2_ := Aside0.mk (below_step (by repeat (first | (with_reducible first | exact HB.out | apply below_alloc | apply pw_below_drewN | apply below_drew1 | refine below_set ?_ GE188.out) | exact HB.out)) hb); clear HO191; clear BK188; clear HB; have HO191 := n0_; have BK188 := n1_; have HB := n2_; clear n0_ n1_ n2_; (try clear hb); (try clear hb2); (try clear hk); (try clear hi)))
                go_ret
                exact ⟨by first | rfl | (simp [errW_none, errW_some] <;> rfl) | (simp [*, errW_none, errW_some] <;> rfl), by repeat (first | (with_reducible first | exact HB.out | apply below_alloc | apply pw_below_drewN | apply below_drew1 | refine below_set ?_ GE188.out) | exact HB.out)⟩
              · rw [if_neg c35] at H
                have c35b0 : (a1 == 2) = false := beq_eq_false_iff_ne.mpr c35
                have c35b1 : (a1 != 2) = true := bne_iff_ne.mpr c35
                by_cases c42 : a1 = 4
                · rw [if_pos c42] at H
                  have c42b0 : (a1 == 4) = true := beq_iff_eq.mpr c42
                  have c42b1 : (a1 != 4) = false := bne_eq_false_iff_eq.mpr c42
                  clear c42
                  replace H := Option.bind_eq_some_iff.mp H
                  obtain ⟨t197, A430, H⟩ := H
                  replace H : (some t197) = some r := H
                  have A43 := Aside0.mk A430
                  clear A430
                  obtain rfl := Option.some.inj H
                  have hcz44_0 : wc.cell? ⟨gb188, 0, none⟩ = some (.int .i64 a0_0) := (blk_cell BK188.out 0).trans rfl
                  have hcz44_1 : wc.cell? ⟨gb188, 1, none⟩ = some (.int .i64 a0_1) := (blk_cell BK188.out 1).trans rfl
                  have hcz44_2 : wc.cell? ⟨gb188, 2, none⟩ = some (.int .i64 a0_2) := (blk_cell BK188.out 2).trans rfl
                  have hcz44_3 : wc.cell? ⟨gb188, 3, none⟩ = some (.string a0_3) := (blk_cell BK188.out 3).trans rfl
                  have hcz44_4 : wc.cell? ⟨gb188, 4, none⟩ = some (.int .i64 a0_4) := (blk_cell BK188.out 4).trans rfl
                  have hcz44_5 : wc.cell? ⟨gb188, 5, none⟩ = some (.int .i64 a0_5) := (blk_cell BK188.out 5).trans rfl
                  have hcz44_6 : wc.cell? ⟨gb188, 6, none⟩ = some (.int .i64 a0_6) := (blk_cell BK188.out 6).trans rfl
                  have hcz44_7 : wc.cell? ⟨gb188, 7, none⟩ = some (.int .i64 a0_7) := (blk_cell BK188.out 7).trans rfl
                  have hcz44_8 : wc.cell? ⟨gb188, 8, none⟩ = some (.int .i32 a0_8) := (blk_cell BK188.out 8).trans rfl
                  have hcz44_9 : wc.cell? ⟨gb188, 9, none⟩ = some (.string a0_9) := (blk_cell BK188.out 9).trans rfl
                  have hcz44_10 : wc.cell? ⟨gb188, 10, none⟩ = some (.int .i64 a0_10) := (blk_cell BK188.out 10).trans rfl
                  have hcz44_11 : wc.cell? ⟨gb188, 11, none⟩ = some (.slice A0_11 l0_11.length c0_11) := (blk_cell BK188.out 11).trans rfl
                  have hcz44_12 : wc.cell? ⟨gb188, 12, none⟩ = some (.int .u32 a0_12) := (blk_cell BK188.out 12).trans rfl
                  have hcz44_13 : wc.cell? ⟨gb188, 13, none⟩ = some (.bool a0_13) := (blk_cell BK188.out 13).trans rfl
                  have hcz44_14 : wc.cell? ⟨gb188, 14, none⟩ = some (.bool a0_14) := (blk_cell BK188.out 14).trans rfl
                  have hfz44_0 := blk_frozen BK188.out 0
                  have hfz44_1 := blk_frozen BK188.out 1
                  have hfz44_2 := blk_frozen BK188.out 2
                  have hfz44_3 := blk_frozen BK188.out 3
                  have hfz44_4 := blk_frozen BK188.out 4
                  have hfz44_5 := blk_frozen BK188.out 5
                  have hfz44_6 := blk_frozen BK188.out 6
                  have hfz44_7 := blk_frozen BK188.out 7
                  have hfz44_8 := blk_frozen BK188.out 8
                  have hfz44_9 := blk_frozen BK188.out 9
                  have hfz44_10 := blk_frozen BK188.out 10
                  have hfz44_11 := blk_frozen BK188.out 11
                  have hfz44_12 := blk_frozen BK188.out 12
                  have hfz44_13 := blk_frozen BK188.out 13
                  have hfz44_14 := blk_frozen BK188.out 14
                  go_wp2_with (first | ((with_reducible refine gate_callee (f := 13) rfl ?_); refine goesL_ (some 17) rfl rfl Try.func13 (by kernel_rfl) rfl #[.agg #[.int .i64 a0_0, .int .i64 a0_1, .int .i64 a0_2, .string a0_3, .int .i64 a0_4, .int .i64 a0_5, .int .i64 a0_6, .int .i64 a0_7, .int .i32 a0_8, .string a0_9, .int .i64 a0_10, .slice A0_11 l0_11.length c0_11, .int .u32 a0_12, .bool a0_13, .bool a0_14]] rfl (by (try simp only [List.map_toArray, List.map_cons, List.map_nil]); first | done | rfl | (simp only [List.length_drop, List.length_take]; rfl)) ?_; (with_reducible refine (span_Classes.calls kj4 a0_0 a0_1 a0_2 a0_3 a0_4 a0_5 a0_6 a0_7 a0_8 a0_9 a0_10 _ _ l0_11 a0_12 a0_13 a0_14 t189 _ ?side1 ?side2 A11.out).mono ?_); (case side1 => repeat (first | exact (Kd.C_below HR0_11.out HB.out) | (with_reducible refine Kd.C_alloc ?_ _) | (with_reducible refine Kd.C_drewN ?_ _) | (with_reducible refine Kd.C_drew ?_))); (case side2 => exact HC0_11.out); rintro e w45 ⟨v190, rfl, ho0, hb⟩; refine ⟨_, rfl, ?_⟩; have n0_ := Aside0.mk (Kd.R_lower ho0 (below_size (by repeat (first | (with_reducible first | exact HB.out | apply below_alloc | apply pw_below_drewN | apply below_drew1 | refine below_set ?_ GE188.out) | exact HB.out)))); have n1_ := Aside0.mk (blk_below (g := gb188) (o := .cells #[.int .i64 a0_0, .int .i64 a0_1, .int .i64 a0_2, .string a0_3, .int .i64 a0_4, .int .i64 a0_5, .int .i64 a0_6, .int .i64 a0_7, .int .i32 a0_8, .string a0_9, .int .i64 a0_10, .slice A0_11 l0_11.length c0_11, .int .u32 a0_12, .bool a0_13, .bool a0_14] 27 (0, 0)) (by (with_reducible repeat (first | refine blk_drewN ?_ _ | refine blk_drew ?_ | refine blk_alloc ?_ _)); exact BK188.out) hb); have n2_ := Aside0.mk (below_step (by repeat (first | (with_reducible first | exact HB.out | apply below_alloc | apply pw_below_drewN | apply below_drew1 | refine below_set ?_ GE188.out) | exact HB.out)) hb); clear BK188; clear HB; have HO191 := n0_; have BK188 := n1_; have HB := n2_; clear n0_ n1_ n2_; (try clear hb); (try clear hb2); (try clear hk); (try clear hi); (try clear ho0); obtain ⟨Ao46, co46, eo46⟩ := Kd.R_slice HO191.out; subst eo46) | ((with_reducible refine gate_callee (f := 15) rfl ?_); refine goesL_ (some 19) rfl rfl Try.func15 (by kernel_rfl) rfl #[.slice Ao46 t189.length co46, .int .i64 a1] rfl (by (try simp only [List.map_toArray, List.map_cons, List.map_nil]); first | done | rfl | (simp only [List.length_drop, List.length_take]; rfl)) ?_; (with_reducible refine (slices_Contains_int_int.calls kj4 _ _ t189 a1 true _ ?side1 ?side2 A12.out).mono ?_); (case side1 => repeat (first | exact (Kd.R_reads' HO191.out).2.2 | (with_reducible refine Kd.C_alloc ?_ _) | (with_reducible refine Kd.C_drewN ?_ _) | (with_reducible refine Kd.C_drew ?_))); (case side2 => exact (Kd.R_reads' HO191.out).2.1); rintro e w' ⟨rfl, ⟨nd, rfl⟩⟩; refine ⟨_, rfl, ?_⟩; have hcz47_0 : w45.cell? ⟨gb188, 0, none⟩ = some (.int .i64 a0_0) := (blk_cell BK188.out 0).trans rfl; have hcz47_1 : w45.cell? ⟨gb188, 1, none⟩ = some (.int .i64 a0_1) := (blk_cell BK188.out 1).trans rfl; have hcz47_2 : w45.cell? ⟨gb188, 2, none⟩ = some (.int .i64 a0_2) := (blk_cell BK188.out 2).trans rfl; have hcz47_3 : w45.cell? ⟨gb188, 3, none⟩ = some (.string a0_3) := (blk_cell BK188.out 3).trans rfl; have hcz47_4 : w45.cell? ⟨gb188, 4, none⟩ = some (.int .i64 a0_4) := (blk_cell BK188.out 4).trans rfl; have hcz47_5 : w45.cell? ⟨gb188, 5, none⟩ = some (.int .i64 a0_5) := (blk_cell BK188.out 5).trans rfl; have hcz47_6 : w45.cell? ⟨gb188, 6, none⟩ = some (.int .i64 a0_6) := (blk_cell BK188.out 6).trans rfl; have hcz47_7 : w45.cell? ⟨gb188, 7, none⟩ = some (.int .i64 a0_7) := (blk_cell BK188.out 7).trans rfl; have hcz47_8 : w45.cell? ⟨gb188, 8, none⟩ = some (.int .i32 a0_8) := (blk_cell BK188.out 8).trans rfl; have hcz47_9 : w45.cell? ⟨gb188, 9, none⟩ = some (.string a0_9) := (blk_cell BK188.out 9).trans rfl; have hcz47_10 : w45.cell? ⟨gb188, 10, none⟩ = some (.int .i64 a0_10) := (blk_cell BK188.out 10).trans rfl; have hcz47_11 : w45.cell? ⟨gb188, 11, none⟩ = some (.slice A0_11 l0_11.length c0_11) := (blk_cell BK188.out 11).trans rfl; have hcz47_12 : w45.cell? ⟨gb188, 12, none⟩ = some (.int .u32 a0_12) := (blk_cell BK188.out 12).trans rfl; have hcz47_13 : w45.cell? ⟨gb188, 13, none⟩ = some (.bool a0_13) := (blk_cell BK188.out 13).trans rfl; have hcz47_14 : w45.cell? ⟨gb188, 14, none⟩ = some (.bool a0_14) := (blk_cell BK188.out 14).trans rfl; have hfz47_0 := blk_frozen BK188.out 0; have hfz47_1 := blk_frozen BK188.out 1; have hfz47_2 := blk_frozen BK188.out 2; have hfz47_3 := blk_frozen BK188.out 3; have hfz47_4 := blk_frozen BK188.out 4; have hfz47_5 := blk_frozen BK188.out 5; have hfz47_6 := blk_frozen BK188.out 6; have hfz47_7 := blk_frozen BK188.out 7; have hfz47_8 := blk_frozen BK188.out 8; have hfz47_9 := blk_frozen BK188.out 9; have hfz47_10 := blk_frozen BK188.out 10; have hfz47_11 := blk_frozen BK188.out 11; have hfz47_12 := blk_frozen BK188.out 12; have hfz47_13 := blk_frozen BK188.out 13; have hfz47_14 := blk_frozen BK188.out 14) | ((with_reducible refine gate_callee (f := 16) rfl ?_); refine goesL_ (some 44) rfl rfl Try.func16 (by kernel_rfl) rfl #[.int .i32 a2, .int .i64 21] rfl (by (try simp only [List.map_toArray, List.map_cons, List.map_nil]); first | done | rfl | (simp only [List.length_drop, List.length_take]; rfl)) ?_; (with_reducible refine (word_Fits.calls a2 21 t197 _ A43.out).mono ?_); rintro e w48 ⟨rfl, hb⟩; refine ⟨_, rfl, ?_⟩; have n0_ := Aside0.mk (Kd.R_below (by (with_reducible repeat (first | apply Kd.R_alloc | apply Kd.R_drewN | apply Kd.R_drew)); exact HO191.out) hb); have n1_ := Aside0.mk (blk_below (g := gb188) (o := .cells #[.int .i64 a0_0, .int .i64 a0_1, .int .i64 a0_2, .string a0_3, .int .i64 a0_4, .int .i64 a0_5, .int .i64 a0_6, .int .i64 a0_7, .int .i32 a0_8, .string a0_9, .int .i64 a0_10, .slice A0_11 l0_11.length c0_11, .int .u32 a0_12, .bool a0_13, .bool a0_14] 27 (0, 0)) (by (with_reducible repeat (first | refine blk_drewN ?_ _ | refine blk_drew ?_ | refine blk_alloc ?_ _)); exact BK188.out) hb); have n2_ := Aside0.mk (below_step (by repeat (first | (with_reducible first | exact HB.out | apply below_alloc | apply pw_below_drewN | apply below_drew1 | refine below_set ?_ GE188.out) | exact HB.out)) hb); clear HO191; clear BK188; clear HB; have HO191 := n0_; have BK188 := n1_; have HB := n2_; clear n0_ n1_ n2_; (try clear hb); (try clear hb2); (try clear hk); (try clear hi)))
                  go_ret
                  exact ⟨by first | rfl | (simp [errW_none, errW_some] <;> rfl) | (simp [*, errW_none, errW_some] <;> rfl), by repeat (first | (with_reducible first | exact HB.out | apply below_alloc | apply pw_below_drewN | apply below_drew1 | refine below_set ?_ GE188.out) | exact HB.out)⟩
                · rw [if_neg c42] at H
                  have c42b0 : (a1 == 4) = false := beq_eq_false_iff_ne.mpr c42
                  have c42b1 : (a1 != 4) = true := bne_iff_ne.mpr c42
                  obtain rfl := Option.some.inj H
                  have hcz49_0 : wc.cell? ⟨gb188, 0, none⟩ = some (.int .i64 a0_0) := (blk_cell BK188.out 0).trans rfl
                  have hcz49_1 : wc.cell? ⟨gb188, 1, none⟩ = some (.int .i64 a0_1) := (blk_cell BK188.out 1).trans rfl
                  have hcz49_2 : wc.cell? ⟨gb188, 2, none⟩ = some (.int .i64 a0_2) := (blk_cell BK188.out 2).trans rfl
                  have hcz49_3 : wc.cell? ⟨gb188, 3, none⟩ = some (.string a0_3) := (blk_cell BK188.out 3).trans rfl
                  have hcz49_4 : wc.cell? ⟨gb188, 4, none⟩ = some (.int .i64 a0_4) := (blk_cell BK188.out 4).trans rfl
                  have hcz49_5 : wc.cell? ⟨gb188, 5, none⟩ = some (.int .i64 a0_5) := (blk_cell BK188.out 5).trans rfl
                  have hcz49_6 : wc.cell? ⟨gb188, 6, none⟩ = some (.int .i64 a0_6) := (blk_cell BK188.out 6).trans rfl
                  have hcz49_7 : wc.cell? ⟨gb188, 7, none⟩ = some (.int .i64 a0_7) := (blk_cell BK188.out 7).trans rfl
                  have hcz49_8 : wc.cell? ⟨gb188, 8, none⟩ = some (.int .i32 a0_8) := (blk_cell BK188.out 8).trans rfl
                  have hcz49_9 : wc.cell? ⟨gb188, 9, none⟩ = some (.string a0_9) := (blk_cell BK188.out 9).trans rfl
                  have hcz49_10 : wc.cell? ⟨gb188, 10, none⟩ = some (.int .i64 a0_10) := (blk_cell BK188.out 10).trans rfl
                  have hcz49_11 : wc.cell? ⟨gb188, 11, none⟩ = some (.slice A0_11 l0_11.length c0_11) := (blk_cell BK188.out 11).trans rfl
                  have hcz49_12 : wc.cell? ⟨gb188, 12, none⟩ = some (.int .u32 a0_12) := (blk_cell BK188.out 12).trans rfl
                  have hcz49_13 : wc.cell? ⟨gb188, 13, none⟩ = some (.bool a0_13) := (blk_cell BK188.out 13).trans rfl
                  have hcz49_14 : wc.cell? ⟨gb188, 14, none⟩ = some (.bool a0_14) := (blk_cell BK188.out 14).trans rfl
                  have hfz49_0 := blk_frozen BK188.out 0
                  have hfz49_1 := blk_frozen BK188.out 1
                  have hfz49_2 := blk_frozen BK188.out 2
                  have hfz49_3 := blk_frozen BK188.out 3
                  have hfz49_4 := blk_frozen BK188.out 4
                  have hfz49_5 := blk_frozen BK188.out 5
                  have hfz49_6 := blk_frozen BK188.out 6
                  have hfz49_7 := blk_frozen BK188.out 7
                  have hfz49_8 := blk_frozen BK188.out 8
                  have hfz49_9 := blk_frozen BK188.out 9
                  have hfz49_10 := blk_frozen BK188.out 10
                  have hfz49_11 := blk_frozen BK188.out 11
                  have hfz49_12 := blk_frozen BK188.out 12
                  have hfz49_13 := blk_frozen BK188.out 13
                  have hfz49_14 := blk_frozen BK188.out 14
                  go_wp2_with (first | ((with_reducible refine gate_callee (f := 13) rfl ?_); refine goesL_ (some 17) rfl rfl Try.func13 (by kernel_rfl) rfl #[.agg #[.int .i64 a0_0, .int .i64 a0_1, .int .i64 a0_2, .string a0_3, .int .i64 a0_4, .int .i64 a0_5, .int .i64 a0_6, .int .i64 a0_7, .int .i32 a0_8, .string a0_9, .int .i64 a0_10, .slice A0_11 l0_11.length c0_11, .int .u32 a0_12, .bool a0_13, .bool a0_14]] rfl (by (try simp only [List.map_toArray, List.map_cons, List.map_nil]); first | done | rfl | (simp only [List.length_drop, List.length_take]; rfl)) ?_; (with_reducible refine (span_Classes.calls kj4 a0_0 a0_1 a0_2 a0_3 a0_4 a0_5 a0_6 a0_7 a0_8 a0_9 a0_10 _ _ l0_11 a0_12 a0_13 a0_14 t189 _ ?side1 ?side2 A11.out).mono ?_); (case side1 => repeat (first | exact (Kd.C_below HR0_11.out HB.out) | (with_reducible refine Kd.C_alloc ?_ _) | (with_reducible refine Kd.C_drewN ?_ _) | (with_reducible refine Kd.C_drew ?_))); (case side2 => exact HC0_11.out); rintro e w50 ⟨v190, rfl, ho0, hb⟩; refine ⟨_, rfl, ?_⟩; have n0_ := Aside0.mk (Kd.R_lower ho0 (below_size (by repeat (first | (with_reducible first | exact HB.out | apply below_alloc | apply pw_below_drewN | apply below_drew1 | refine below_set ?_ GE188.out) | exact HB.out)))); have n1_ := Aside0.mk (blk_below (g := gb188) (o := .cells #[.int .i64 a0_0, .int .i64 a0_1, .int .i64 a0_2, .string a0_3, .int .i64 a0_4, .int .i64 a0_5, .int .i64 a0_6, .int .i64 a0_7, .int .i32 a0_8, .string a0_9, .int .i64 a0_10, .slice A0_11 l0_11.length c0_11, .int .u32 a0_12, .bool a0_13, .bool a0_14] 27 (0, 0)) (by (with_reducible repeat (first | refine blk_drewN ?_ _ | refine blk_drew ?_ | refine blk_alloc ?_ _)); exact BK188.out) hb); have n2_ := Aside0.mk (below_step (by repeat (first | (with_reducible first | exact HB.out | apply below_alloc | apply pw_below_drewN | apply below_drew1 | refine below_set ?_ GE188.out) | exact HB.out)) hb); clear BK188; clear HB; have HO191 := n0_; have BK188 := n1_; have HB := n2_; clear n0_ n1_ n2_; (try clear hb); (try clear hb2); (try clear hk); (try clear hi); (try clear ho0); obtain ⟨Ao51, co51, eo51⟩ := Kd.R_slice HO191.out; subst eo51) | ((with_reducible refine gate_callee (f := 15) rfl ?_); refine goesL_ (some 19) rfl rfl Try.func15 (by kernel_rfl) rfl #[.slice Ao51 t189.length co51, .int .i64 a1] rfl (by (try simp only [List.map_toArray, List.map_cons, List.map_nil]); first | done | rfl | (simp only [List.length_drop, List.length_take]; rfl)) ?_; (with_reducible refine (slices_Contains_int_int.calls kj4 _ _ t189 a1 true _ ?side1 ?side2 A12.out).mono ?_); (case side1 => repeat (first | exact (Kd.R_reads' HO191.out).2.2 | (with_reducible refine Kd.C_alloc ?_ _) | (with_reducible refine Kd.C_drewN ?_ _) | (with_reducible refine Kd.C_drew ?_))); (case side2 => exact (Kd.R_reads' HO191.out).2.1); rintro e w' ⟨rfl, ⟨nd, rfl⟩⟩; refine ⟨_, rfl, ?_⟩; have hcz52_0 : w50.cell? ⟨gb188, 0, none⟩ = some (.int .i64 a0_0) := (blk_cell BK188.out 0).trans rfl; have hcz52_1 : w50.cell? ⟨gb188, 1, none⟩ = some (.int .i64 a0_1) := (blk_cell BK188.out 1).trans rfl; have hcz52_2 : w50.cell? ⟨gb188, 2, none⟩ = some (.int .i64 a0_2) := (blk_cell BK188.out 2).trans rfl; have hcz52_3 : w50.cell? ⟨gb188, 3, none⟩ = some (.string a0_3) := (blk_cell BK188.out 3).trans rfl; have hcz52_4 : w50.cell? ⟨gb188, 4, none⟩ = some (.int .i64 a0_4) := (blk_cell BK188.out 4).trans rfl; have hcz52_5 : w50.cell? ⟨gb188, 5, none⟩ = some (.int .i64 a0_5) := (blk_cell BK188.out 5).trans rfl; have hcz52_6 : w50.cell? ⟨gb188, 6, none⟩ = some (.int .i64 a0_6) := (blk_cell BK188.out 6).trans rfl; have hcz52_7 : w50.cell? ⟨gb188, 7, none⟩ = some (.int .i64 a0_7) := (blk_cell BK188.out 7).trans rfl; have hcz52_8 : w50.cell? ⟨gb188, 8, none⟩ = some (.int .i32 a0_8) := (blk_cell BK188.out 8).trans rfl; have hcz52_9 : w50.cell? ⟨gb188, 9, none⟩ = some (.string a0_9) := (blk_cell BK188.out 9).trans rfl; have hcz52_10 : w50.cell? ⟨gb188, 10, none⟩ = some (.int .i64 a0_10) := (blk_cell BK188.out 10).trans rfl; have hcz52_11 : w50.cell? ⟨gb188, 11, none⟩ = some (.slice A0_11 l0_11.length c0_11) := (blk_cell BK188.out 11).trans rfl; have hcz52_12 : w50.cell? ⟨gb188, 12, none⟩ = some (.int .u32 a0_12) := (blk_cell BK188.out 12).trans rfl; have hcz52_13 : w50.cell? ⟨gb188, 13, none⟩ = some (.bool a0_13) := (blk_cell BK188.out 13).trans rfl; have hcz52_14 : w50.cell? ⟨gb188, 14, none⟩ = some (.bool a0_14) := (blk_cell BK188.out 14).trans rfl; have hfz52_0 := blk_frozen BK188.out 0; have hfz52_1 := blk_frozen BK188.out 1; have hfz52_2 := blk_frozen BK188.out 2; have hfz52_3 := blk_frozen BK188.out 3; have hfz52_4 := blk_frozen BK188.out 4; have hfz52_5 := blk_frozen BK188.out 5; have hfz52_6 := blk_frozen BK188.out 6; have hfz52_7 := blk_frozen BK188.out 7; have hfz52_8 := blk_frozen BK188.out 8; have hfz52_9 := blk_frozen BK188.out 9; have hfz52_10 := blk_frozen BK188.out 10; have hfz52_11 := blk_frozen BK188.out 11; have hfz52_12 := blk_frozen BK188.out 12; have hfz52_13 := blk_frozen BK188.out 13; have hfz52_14 := blk_frozen BK188.out 14))
                  go_ret
                  exact ⟨by first | rfl | (simp [errW_none, errW_some] <;> rfl) | (simp [*, errW_none, errW_some] <;> rfl), by repeat (first | (with_reducible first | exact HB.out | apply below_alloc | apply pw_below_drewN | apply below_drew1 | refine below_set ?_ GE188.out) | exact HB.out)⟩
          · replace c13 := Bool.eq_false_iff.mpr c13
            subst c13
            have H1 : (some false) = some r := by rw [if_neg (show ¬ (false = true) by decide)] at H; exact H
            clear H
            have H := H1
            clear H1
            obtain rfl := Option.some.inj H
            have hcz53_0 : wc.cell? ⟨gb188, 0, none⟩ = some (.int .i64 a0_0) := (blk_cell BK188.out 0).trans rfl
            have hcz53_1 : wc.cell? ⟨gb188, 1, none⟩ = some (.int .i64 a0_1) := (blk_cell BK188.out 1).trans rfl
            have hcz53_2 : wc.cell? ⟨gb188, 2, none⟩ = some (.int .i64 a0_2) := (blk_cell BK188.out 2).trans rfl
            have hcz53_3 : wc.cell? ⟨gb188, 3, none⟩ = some (.string a0_3) := (blk_cell BK188.out 3).trans rfl
            have hcz53_4 : wc.cell? ⟨gb188, 4, none⟩ = some (.int .i64 a0_4) := (blk_cell BK188.out 4).trans rfl
            have hcz53_5 : wc.cell? ⟨gb188, 5, none⟩ = some (.int .i64 a0_5) := (blk_cell BK188.out 5).trans rfl
            have hcz53_6 : wc.cell? ⟨gb188, 6, none⟩ = some (.int .i64 a0_6) := (blk_cell BK188.out 6).trans rfl
            have hcz53_7 : wc.cell? ⟨gb188, 7, none⟩ = some (.int .i64 a0_7) := (blk_cell BK188.out 7).trans rfl
            have hcz53_8 : wc.cell? ⟨gb188, 8, none⟩ = some (.int .i32 a0_8) := (blk_cell BK188.out 8).trans rfl
            have hcz53_9 : wc.cell? ⟨gb188, 9, none⟩ = some (.string a0_9) := (blk_cell BK188.out 9).trans rfl
            have hcz53_10 : wc.cell? ⟨gb188, 10, none⟩ = some (.int .i64 a0_10) := (blk_cell BK188.out 10).trans rfl
            have hcz53_11 : wc.cell? ⟨gb188, 11, none⟩ = some (.slice A0_11 l0_11.length c0_11) := (blk_cell BK188.out 11).trans rfl
            have hcz53_12 : wc.cell? ⟨gb188, 12, none⟩ = some (.int .u32 a0_12) := (blk_cell BK188.out 12).trans rfl
            have hcz53_13 : wc.cell? ⟨gb188, 13, none⟩ = some (.bool a0_13) := (blk_cell BK188.out 13).trans rfl
            have hcz53_14 : wc.cell? ⟨gb188, 14, none⟩ = some (.bool a0_14) := (blk_cell BK188.out 14).trans rfl
            have hfz53_0 := blk_frozen BK188.out 0
            have hfz53_1 := blk_frozen BK188.out 1
            have hfz53_2 := blk_frozen BK188.out 2
            have hfz53_3 := blk_frozen BK188.out 3
            have hfz53_4 := blk_frozen BK188.out 4
            have hfz53_5 := blk_frozen BK188.out 5
            have hfz53_6 := blk_frozen BK188.out 6
            have hfz53_7 := blk_frozen BK188.out 7
            have hfz53_8 := blk_frozen BK188.out 8
            have hfz53_9 := blk_frozen BK188.out 9
            have hfz53_10 := blk_frozen BK188.out 10
            have hfz53_11 := blk_frozen BK188.out 11
            have hfz53_12 := blk_frozen BK188.out 12
            have hfz53_13 := blk_frozen BK188.out 13
            have hfz53_14 := blk_frozen BK188.out 14
            go_wp2_with (first | ((with_reducible refine gate_callee (f := 13) rfl ?_); refine goesL_ (some 17) rfl rfl Try.func13 (by kernel_rfl) rfl #[.agg #[.int .i64 a0_0, .int .i64 a0_1, .int .i64 a0_2, .string a0_3, .int .i64 a0_4, .int .i64 a0_5, .int .i64 a0_6, .int .i64 a0_7, .int .i32 a0_8, .string a0_9, .int .i64 a0_10, .slice A0_11 l0_11.length c0_11, .int .u32 a0_12, .bool a0_13, .bool a0_14]] rfl (by (try simp only [List.map_toArray, List.map_cons, List.map_nil]); first | done | rfl | (simp only [List.length_drop, List.length_take]; rfl)) ?_; (with_reducible refine (span_Classes.calls kj4 a0_0 a0_1 a0_2 a0_3 a0_4 a0_5 a0_6 a0_7 a0_8 a0_9 a0_10 _ _ l0_11 a0_12 a0_13 a0_14 t189 _ ?side1 ?side2 A11.out).mono ?_); (case side1 => repeat (first | exact (Kd.C_below HR0_11.out HB.out) | (with_reducible refine Kd.C_alloc ?_ _) | (with_reducible refine Kd.C_drewN ?_ _) | (with_reducible refine Kd.C_drew ?_))); (case side2 => exact HC0_11.out); rintro e w54 ⟨v190, rfl, ho0, hb⟩; refine ⟨_, rfl, ?_⟩; have n0_ := Aside0.mk (Kd.R_lower ho0 (below_size (by repeat (first | (with_reducible first | exact HB.out | apply below_alloc | apply pw_below_drewN | apply below_drew1 | refine below_set ?_ GE188.out) | exact HB.out)))); have n1_ := Aside0.mk (blk_below (g := gb188) (o := .cells #[.int .i64 a0_0, .int .i64 a0_1, .int .i64 a0_2, .string a0_3, .int .i64 a0_4, .int .i64 a0_5, .int .i64 a0_6, .int .i64 a0_7, .int .i32 a0_8, .string a0_9, .int .i64 a0_10, .slice A0_11 l0_11.length c0_11, .int .u32 a0_12, .bool a0_13, .bool a0_14] 27 (0, 0)) (by (with_reducible repeat (first | refine blk_drewN ?_ _ | refine blk_drew ?_ | refine blk_alloc ?_ _)); exact BK188.out) hb); have n2_ := Aside0.mk (below_step (by repeat (first | (with_reducible first | exact HB.out | apply below_alloc | apply pw_below_drewN | apply below_drew1 | refine below_set ?_ GE188.out) | exact HB.out)) hb); clear BK188; clear HB; have HO191 := n0_; have BK188 := n1_; have HB := n2_; clear n0_ n1_ n2_; (try clear hb); (try clear hb2); (try clear hk); (try clear hi); (try clear ho0); obtain ⟨Ao55, co55, eo55⟩ := Kd.R_slice HO191.out; subst eo55) | ((with_reducible refine gate_callee (f := 15) rfl ?_); refine goesL_ (some 19) rfl rfl Try.func15 (by kernel_rfl) rfl #[.slice Ao55 t189.length co55, .int .i64 a1] rfl (by (try simp only [List.map_toArray, List.map_cons, List.map_nil]); first | done | rfl | (simp only [List.length_drop, List.length_take]; rfl)) ?_; (with_reducible refine (slices_Contains_int_int.calls kj4 _ _ t189 a1 false _ ?side1 ?side2 A12.out).mono ?_); (case side1 => repeat (first | exact (Kd.R_reads' HO191.out).2.2 | (with_reducible refine Kd.C_alloc ?_ _) | (with_reducible refine Kd.C_drewN ?_ _) | (with_reducible refine Kd.C_drew ?_))); (case side2 => exact (Kd.R_reads' HO191.out).2.1); rintro e w' ⟨rfl, ⟨nd, rfl⟩⟩; refine ⟨_, rfl, ?_⟩))
            go_ret
            exact ⟨by first | rfl | (simp [errW_none, errW_some] <;> rfl) | (simp [*, errW_none, errW_some] <;> rfl), by repeat (first | (with_reducible first | exact HB.out | apply below_alloc | apply pw_below_drewN | apply below_drew1 | refine below_set ?_ GE188.out) | exact HB.out)⟩
        · replace c10 := Bool.eq_false_iff.mpr c10
          subst c10
          have H1 : (some false) = some r := by rw [if_neg (show ¬ (false = true) by decide)] at H; exact H
          clear H
          have H := H1
          clear H1
          obtain rfl := Option.some.inj H
          go_wp2
          go_ret
          exact ⟨by first | rfl | (simp [errW_none, errW_some] <;> rfl) | (simp [*, errW_none, errW_some] <;> rfl), by repeat (first | (with_reducible first | exact HB.out | apply below_alloc | apply pw_below_drewN | apply below_drew1 | refine below_set ?_ GE188.out) | exact HB.out)⟩
  · rw [if_neg c4] at H
    have c4b0 : ((Int.tmod a2 2) == 0) = false := beq_eq_false_iff_ne.mpr c4
    have c4b1 : ((Int.tmod a2 2) != 0) = true := bne_iff_ne.mpr c4
    obtain rfl := Option.some.inj H
    go_enter Try.func8, Try.ntmps8
    go_wp2_with (first | ((with_reducible refine gate_dst (N := 3) rfl ?_); refine box_event ?hg (N := 3) ?hd (cs := #[.int .i64 a0_0, .int .i64 a0_1, .int .i64 a0_2, .string a0_3, .int .i64 a0_4, .int .i64 a0_5, .int .i64 a0_6, .int .i64 a0_7, .int .i32 a0_8, .string a0_9, .int .i64 a0_10, .slice A0_11 l0_11.length c0_11, .int .u32 a0_12, .bool a0_13, .bool a0_14]) (t := 27) ?hr ?_; (case hd => rfl); (case hg => rfl); (case hr => first | (go_simp; done) | (go_simp; rfl)); intro gb188 hg w56 hbox hb; have n0_ := Aside0.mk (below_step (by repeat (first | (with_reducible first | exact HB.out | apply below_alloc | apply pw_below_drewN | apply below_drew1) | exact HB.out)) hb); have n1_ := Aside0.mk (hbox); have n2_ := Aside0.mk ((by rw [hg]; exact (below_size (by repeat (first | (with_reducible first | exact HB.out | apply below_alloc | apply pw_below_drewN | apply below_drew1) | exact HB.out))) : w.heap.size ≤ gb188)); have n3_ := Aside0.mk ((by rw [hg]; exact (below_size (by repeat (first | (with_reducible first | exact HB.out | apply below_alloc | apply pw_below_drewN | apply below_drew1) | exact HB.out))) : w.heap.size ≤ gb188)); clear HB; have HB := n0_; have BK188 := n1_; have GW188 := n2_; have GE188 := n3_; clear n0_ n1_ n2_ n3_; clear hb hbox hg))
    go_ret
    exact ⟨by first | rfl | (simp [errW_none, errW_some] <;> rfl) | (simp [*, errW_none, errW_some] <;> rfl), by repeat (first | (with_reducible first | exact HB.out | apply below_alloc | apply pw_below_drewN | apply below_drew1 | refine below_set ?_ GE188.out) | exact HB.out)⟩

/-! ### typecaselaw18_ints: function 12 -/
def typecaselaw18_ints.l0 : Nat → List Int → List Int → Int → Option (Bool)
  | 0, _, _, _ => none
  | k + 1, x0, x1, x5 => if x5 < (x0.length : Int) then (if 0 ≤ x5 then (if x5 < (x1.length : Int) then (if (rd x0 x5) = (rd x1 x5) then (typecaselaw18_ints.l0 k x0 x1 (wrap64 (x5 + 1))) else (some false)) else (none)) else (none)) else (some true)
def typecaselaw18_ints.f (k : Nat) (l0 : List Int) (l1 : List Int) : Option (Bool) := if (l0.length : Int) = (l1.length : Int) then (typecaselaw18_ints.l0 k l0 l1 0) else (some false)
theorem typecaselaw18_ints.mono_l : ∀ k, (∀ y0 y1 y2, LeO (typecaselaw18_ints.l0 k y0 y1 y2) (typecaselaw18_ints.l0 (k + 1) y0 y1 y2))
  | 0 => fun _ _ _ r h => by simp [typecaselaw18_ints.l0] at h
  | k + 1 => by
    have ih0 := typecaselaw18_ints.mono_l k
    · intro y0 y1 y2
      unfold typecaselaw18_ints.l0
      repeat' first
      | (with_reducible exact ih0 _ _ _)
      | (with_reducible exact LeO.refl _)
      | (with_reducible exact LeO.none _)
      | (with_reducible refine LeO.ite ?_ ?_)
      | (with_reducible refine LeO.bind ?_ (fun _ => ?_))
      | exact ih0 _ _ _
      | exact LeO.none _
      | refine LeO.ite ?_ ?_
      | refine LeO.bind ?_ (fun _ => ?_)
theorem typecaselaw18_ints.mono : ∀ a0 a1 k, LeO (typecaselaw18_ints.f k a0 a1) (typecaselaw18_ints.f (k + 1) a0 a1) := by
  intro a0 a1 k
  have ih0 := typecaselaw18_ints.mono_l k
  unfold typecaselaw18_ints.f
  repeat' first
      | (with_reducible exact ih0 _ _ _)
      | (with_reducible exact LeO.refl _)
      | (with_reducible exact LeO.none _)
      | (with_reducible refine LeO.ite ?_ ?_)
      | (with_reducible refine LeO.bind ?_ (fun _ => ?_))
      | exact ih0 _ _ _
      | exact LeO.none _
      | refine LeO.ite ?_ ?_
      | refine LeO.bind ?_ (fun _ => ?_)
set_option maxHeartbeats 8000000 in
set_option maxRecDepth 100000 in
theorem typecaselaw18_ints.calls (k : Nat) (A0 : Option Addr) (c0 : Nat) (l0 : List Int) (A1 : Option Addr) (c1 : Nat) (l1 : List Int) (r : Bool) (w : World) (hr0 : Kd.C (Kd.int .i64) w A0 l0.length l0) (hc0 : l0.length ≤ c0) (hr1 : Kd.C (Kd.int .i64) w A1 l1.length l1) (hc1 : l1.length ≤ c1) (h : typecaselaw18_ints.f k l0 l1 = some r) :
    Calls Try.prog 12 #[.slice A0 l0.length c0, .slice A1 l1.length c1] w fun e w' => e = .returned (.bool r) ∧ Drawn0 w w' := by
  have HR0 := Aside0.mk hr0
  have HC0 := Aside0.mk hc0
  clear hr0 hc0
  have HR1 := Aside0.mk hr1
  have HC1 := Aside0.mk hc1
  clear hr1 hc1
  have H : (if (l0.length : Int) = (l1.length : Int) then (typecaselaw18_ints.l0 k l0 l1 0) else (some false)) = some r := h
  clear h
  by_cases c3 : (l0.length : Int) = (l1.length : Int)
  · rw [if_pos c3] at H
    have c3b0 : ((l0.length : Int) == (l1.length : Int)) = true := beq_iff_eq.mpr c3
    have c3b1 : ((l0.length : Int) != (l1.length : Int)) = false := bne_eq_false_iff_eq.mpr c3
    have c3b2 : (l0.length == l1.length) = true := by first | simpa using c3 | (simp at c3 ⊢; omega)
    clear c3
    have H' := Aside0.mk H
    clear H
    go_enter Try.func12, Try.ntmps12
    go_wp2
    repeat (go_quiet (fail); try go_wp2)
    go_loopg [5] k (fun kq v5 w' => ∃ (x5_1 : Int), v5 = .int .i64 x5_1 ∧ Aside0 (typecaselaw18_ints.l0 kq l0 l1 x5_1 = some r) ∧ Aside0 (kq ≤ k) ∧ Drawn0 w w')
    case atStart => exact ⟨(0), (by first | rfl | (simp; done) | (simp [*]; done)), H', ⟨Nat.le_refl _⟩, by repeat (first | exact Drawn0.refl _ | apply Drawn0.step)⟩
    case round =>
      clear H'
      try clear c1
      try clear p2
      try clear c3
      try clear c3b0
      try clear c3b1
      try clear c3b2
      obtain ⟨x5_1, rfl, HA, HK1, ⟨m1, rfl⟩⟩ := hrel
      cases gk with
      | zero => exact absurd HA.out (by simp [typecaselaw18_ints.l0])
      | succ k1 =>
        have H := HA.out
        clear HA
        simp only [typecaselaw18_ints.l0] at H
        by_cases c4 : x5_1 < (l0.length : Int)
        · rw [if_pos c4] at H
          have c4b0 : decide (x5_1 < (l0.length : Int)) = true := decide_eq_true c4
          clear c4
          by_cases c5 : 0 ≤ x5_1
          · rw [if_pos c5] at H
            have c5b0 : decide (0 ≤ x5_1) = true := decide_eq_true c5
            clear c5
            by_cases c6 : x5_1 < (l1.length : Int)
            · rw [if_pos c6] at H
              have c6b0 : decide (x5_1 < (l1.length : Int)) = true := decide_eq_true c6
              clear c6
              by_cases c7 : (rd l0 x5_1) = (rd l1 x5_1)
              · rw [if_pos c7] at H
                have c7b0 : ((rd l0 x5_1) == (rd l1 x5_1)) = true := beq_iff_eq.mpr c7
                have c7b1 : ((rd l0 x5_1) != (rd l1 x5_1)) = false := bne_eq_false_iff_eq.mpr c7
                clear c7
                have H' := Aside0.mk H
                clear H
                have p198 : 0 ≤ (x5_1 : Int) := of_decide_eq_true (by first | (with_reducible assumption) | assumption)
                have q198 : x5_1 < (l0.length : Int) := of_decide_eq_true (by first | (with_reducible assumption) | assumption)
                obtain ⟨ad198, e198, hx198_0⟩ := Kd.at_int HR0.out x5_1 p198 q198
                cases e198
                replace p198 := eq_true p198
                replace q198 := eq_true q198
                have p199 : 0 ≤ (x5_1 : Int) := of_decide_eq_true (by first | (with_reducible assumption) | assumption)
                have q199 : x5_1 < (l1.length : Int) := of_decide_eq_true (by first | (with_reducible assumption) | assumption)
                obtain ⟨ad199, e199, hx199_0⟩ := Kd.at_int HR1.out x5_1 p199 q199
                cases e199
                replace p199 := eq_true p199
                replace q199 := eq_true q199
                go_wp2
                repeat (go_quiet (fail); try go_wp2)
                go_roundg k1
                case measure => have := HK1.out; omega
                case rel => exact ⟨(wrap64 (x5_1 + 1)), (by first | rfl | (simp; done) | (simp [*]; done)), H', ⟨by have := HK1.out; omega⟩, by repeat (first | exact Drawn0.refl _ | apply Drawn0.step)⟩
              · rw [if_neg c7] at H
                have c7b0 : ((rd l0 x5_1) == (rd l1 x5_1)) = false := beq_eq_false_iff_ne.mpr c7
                have c7b1 : ((rd l0 x5_1) != (rd l1 x5_1)) = true := bne_iff_ne.mpr c7
                obtain rfl := Option.some.inj H
                have p198 : 0 ≤ (x5_1 : Int) := of_decide_eq_true (by first | (with_reducible assumption) | assumption)
                have q198 : x5_1 < (l0.length : Int) := of_decide_eq_true (by first | (with_reducible assumption) | assumption)
                obtain ⟨ad198, e198, hx198_0⟩ := Kd.at_int HR0.out x5_1 p198 q198
                cases e198
                replace p198 := eq_true p198
                replace q198 := eq_true q198
                have p199 : 0 ≤ (x5_1 : Int) := of_decide_eq_true (by first | (with_reducible assumption) | assumption)
                have q199 : x5_1 < (l1.length : Int) := of_decide_eq_true (by first | (with_reducible assumption) | assumption)
                obtain ⟨ad199, e199, hx199_0⟩ := Kd.at_int HR1.out x5_1 p199 q199
                cases e199
                replace p199 := eq_true p199
                replace q199 := eq_true q199
                go_wp2
                repeat (go_quiet (fail); try go_wp2)
                go_ret
                exact ⟨by first | rfl | (simp; done) | (simp [*]; done), by repeat (first | exact Drawn0.refl _ | apply Drawn0.step)⟩
            · rw [if_neg c6] at H
              exact absurd H (by simp)
          · rw [if_neg c5] at H
            exact absurd H (by simp)
        · rw [if_neg c4] at H
          have c4b0 : decide (x5_1 < (l0.length : Int)) = false := decide_eq_false c4
          clear c4
          obtain rfl := Option.some.inj H
          go_wp2
          repeat (go_quiet (fail); try go_wp2)
          go_ret
          exact ⟨by first | rfl | (simp; done) | (simp [*]; done), by repeat (first | exact Drawn0.refl _ | apply Drawn0.step)⟩
  · rw [if_neg c3] at H
    have c3b0 : ((l0.length : Int) == (l1.length : Int)) = false := beq_eq_false_iff_ne.mpr c3
    have c3b1 : ((l0.length : Int) != (l1.length : Int)) = true := bne_iff_ne.mpr c3
    have c3b2 : (l0.length == l1.length) = false := by first | simpa using c3 | (simp at c3 ⊢; omega)
    obtain rfl := Option.some.inj H
    go_enter Try.func12, Try.ntmps12
    go_wp2
    repeat (go_quiet (fail); try go_wp2)
    go_ret
    exact ⟨by first | rfl | (simp; done) | (simp [*]; done), by repeat (first | exact Drawn0.refl _ | apply Drawn0.step)⟩

/-! ### typecaselaw18_awake: function 7 -/
def typecaselaw18_awake.f (k : Nat)  : Option (Bool) := (span_Classes.f k 4 0 0 (⟨#[]⟩ : ByteArray) 5 0 8 0 0 (⟨#[]⟩ : ByteArray) 0 ([] : List (S86)) 0 true true).bind fun t201 => ((typecaselaw18_ints.f k t201 (([2, 4, 8] : List Int))).bind fun t207 => (if t207 = true then ((span_Reaches.f k 4 0 0 (⟨#[]⟩ : ByteArray) 5 0 8 0 0 (⟨#[]⟩ : ByteArray) 0 ([] : List (S86)) 0 true true 2 (-256)).bind fun t208 => (if t208 = true then ((span_Reaches.f k 4 0 0 (⟨#[]⟩ : ByteArray) 5 0 8 0 0 (⟨#[]⟩ : ByteArray) 0 ([] : List (S86)) 0 true true 2 256).bind fun t209 => (some (!t209))) else (some false))) else (some false)))
theorem typecaselaw18_awake.mono : ∀ k, LeO (typecaselaw18_awake.f k ) (typecaselaw18_awake.f (k + 1) ) := by
  intro  k
  unfold typecaselaw18_awake.f
  repeat' first
      | (with_reducible exact span_Classes.mono _ _ _ _ _ _ _ _ _ _ _ _ _ _ _ _)
      | (with_reducible exact span_Reaches.mono _ _ _ _ _ _ _ _ _ _ _ _ _ _ _ _ _ _)
      | (with_reducible exact typecaselaw18_ints.mono _ _ _)
      | (with_reducible exact LeO.refl _)
      | (with_reducible exact LeO.none _)
      | (with_reducible refine LeO.ite ?_ ?_)
      | (with_reducible refine LeO.bind ?_ (fun _ => ?_))
      | exact span_Classes.mono _ _ _ _ _ _ _ _ _ _ _ _ _ _ _ _
      | exact span_Reaches.mono _ _ _ _ _ _ _ _ _ _ _ _ _ _ _ _ _ _
      | exact typecaselaw18_ints.mono _ _ _
      | exact LeO.none _
      | refine LeO.ite ?_ ?_
      | refine LeO.bind ?_ (fun _ => ?_)
set_option maxHeartbeats 8000000 in
set_option maxRecDepth 100000 in
theorem typecaselaw18_awake.calls (k : Nat)  (r : Bool) (w : World) (h : typecaselaw18_awake.f k  = some r) :
    Calls Try.prog 7 #[] w fun e w' => e = .returned (.bool r) ∧ Below w.heap.size w w' := by
  have hu23 := Try.underlying23
  have hu27 := Try.underlying27
  have HB := Aside0.mk (Below.refl w.heap.size w)
  have H : ((span_Classes.f k 4 0 0 (⟨#[]⟩ : ByteArray) 5 0 8 0 0 (⟨#[]⟩ : ByteArray) 0 ([] : List (S86)) 0 true true).bind fun t201 => ((typecaselaw18_ints.f k t201 (([2, 4, 8] : List Int))).bind fun t207 => (if t207 = true then ((span_Reaches.f k 4 0 0 (⟨#[]⟩ : ByteArray) 5 0 8 0 0 (⟨#[]⟩ : ByteArray) 0 ([] : List (S86)) 0 true true 2 (-256)).bind fun t208 => (if t208 = true then ((span_Reaches.f k 4 0 0 (⟨#[]⟩ : ByteArray) 5 0 8 0 0 (⟨#[]⟩ : ByteArray) 0 ([] : List (S86)) 0 true true 2 256).bind fun t209 => (some (!t209))) else (some false))) else (some false)))) = some r := h
  clear h
  replace H := Option.bind_eq_some_iff.mp H
  obtain ⟨t201, A10, H⟩ := H
  replace H : ((typecaselaw18_ints.f k t201 (([2, 4, 8] : List Int))).bind fun t207 => (if t207 = true then ((span_Reaches.f k 4 0 0 (⟨#[]⟩ : ByteArray) 5 0 8 0 0 (⟨#[]⟩ : ByteArray) 0 ([] : List (S86)) 0 true true 2 (-256)).bind fun t208 => (if t208 = true then ((span_Reaches.f k 4 0 0 (⟨#[]⟩ : ByteArray) 5 0 8 0 0 (⟨#[]⟩ : ByteArray) 0 ([] : List (S86)) 0 true true 2 256).bind fun t209 => (some (!t209))) else (some false))) else (some false))) = some r := H
  have A1 := Aside0.mk A10
  clear A10
  obtain ⟨y204, hy204⟩ : ∃ y_ : List Int, y_ = (([2, 4, 8] : List Int)) := ⟨_, rfl⟩
  replace H : ((typecaselaw18_ints.f k t201 y204).bind fun t207 => (if t207 = true then ((span_Reaches.f k 4 0 0 (⟨#[]⟩ : ByteArray) 5 0 8 0 0 (⟨#[]⟩ : ByteArray) 0 ([] : List (S86)) 0 true true 2 (-256)).bind fun t208 => (if t208 = true then ((span_Reaches.f k 4 0 0 (⟨#[]⟩ : ByteArray) 5 0 8 0 0 (⟨#[]⟩ : ByteArray) 0 ([] : List (S86)) 0 true true 2 256).bind fun t209 => (some (!t209))) else (some false))) else (some false))) = some r := by first | (rw [hy204]; with_reducible exact H) | (have H2_ := (Option.bind_some _ _).symm.trans H; rw [hy204]; with_reducible exact H2_) | (have H2_ := (Option.bind_some _ _).symm.trans H; with_reducible exact H2_) | with_reducible exact H | (rw [hy204]; exact H) | exact H
  have Ny204 := Aside0.mk hy204
  clear hy204
  replace H := Option.bind_eq_some_iff.mp H
  obtain ⟨t207, A20, H⟩ := H
  replace H : (if t207 = true then ((span_Reaches.f k 4 0 0 (⟨#[]⟩ : ByteArray) 5 0 8 0 0 (⟨#[]⟩ : ByteArray) 0 ([] : List (S86)) 0 true true 2 (-256)).bind fun t208 => (if t208 = true then ((span_Reaches.f k 4 0 0 (⟨#[]⟩ : ByteArray) 5 0 8 0 0 (⟨#[]⟩ : ByteArray) 0 ([] : List (S86)) 0 true true 2 256).bind fun t209 => (some (!t209))) else (some false))) else (some false)) = some r := H
  have A2 := Aside0.mk A20
  clear A20
  by_cases c3 : t207 = true
  · subst c3
    have H1 : ((span_Reaches.f k 4 0 0 (⟨#[]⟩ : ByteArray) 5 0 8 0 0 (⟨#[]⟩ : ByteArray) 0 ([] : List (S86)) 0 true true 2 (-256)).bind fun t208 => (if t208 = true then ((span_Reaches.f k 4 0 0 (⟨#[]⟩ : ByteArray) 5 0 8 0 0 (⟨#[]⟩ : ByteArray) 0 ([] : List (S86)) 0 true true 2 256).bind fun t209 => (some (!t209))) else (some false))) = some r := by rw [if_pos rfl] at H; exact H
    clear H
    have H := H1
    clear H1
    replace H := Option.bind_eq_some_iff.mp H
    obtain ⟨t208, A40, H⟩ := H
    replace H : (if t208 = true then ((span_Reaches.f k 4 0 0 (⟨#[]⟩ : ByteArray) 5 0 8 0 0 (⟨#[]⟩ : ByteArray) 0 ([] : List (S86)) 0 true true 2 256).bind fun t209 => (some (!t209))) else (some false)) = some r := H
    have A4 := Aside0.mk A40
    clear A40
    by_cases c5 : t208 = true
    · subst c5
      have H1 : ((span_Reaches.f k 4 0 0 (⟨#[]⟩ : ByteArray) 5 0 8 0 0 (⟨#[]⟩ : ByteArray) 0 ([] : List (S86)) 0 true true 2 256).bind fun t209 => (some (!t209))) = some r := by rw [if_pos rfl] at H; exact H
      clear H
      have H := H1
      clear H1
      replace H := Option.bind_eq_some_iff.mp H
      obtain ⟨t209, A60, H⟩ := H
      replace H : (some (!t209)) = some r := H
      have A6 := Aside0.mk A60
      clear A60
      obtain rfl := Option.some.inj H
      go_enter Try.func7, Try.ntmps7
      have tok8_0 : True := trivial
      have tok8_1 : True := trivial
      go_wp2_with (first | ((with_reducible refine gate_dst (N := 1) rfl ?_); refine box_event ?hg (N := 1) ?hd (cs := #[.int .i64 0, .int .i64 0, .int .i64 0, .string (⟨#[]⟩ : ByteArray), .int .i64 0, .int .i64 0, .int .i64 0, .int .i64 0, .int .i32 0, .string (⟨#[]⟩ : ByteArray), .int .i64 0, .slice none 0 0, .int .u32 0, .bool false, .bool false]) (t := 27) ?hr ?_; (case hd => rfl); (case hg => rfl); (case hr => first | (go_simp; done) | (go_simp; rfl)); intro gb200 hg w7 hbox hb; have n0_ := Aside0.mk (below_step (by repeat (first | (with_reducible first | exact HB.out | apply below_alloc | apply pw_below_drewN | apply below_drew1) | exact HB.out)) hb); have n1_ := Aside0.mk (hbox); have n2_ := Aside0.mk ((by rw [hg]; exact (below_size (by repeat (first | (with_reducible first | exact HB.out | apply below_alloc | apply pw_below_drewN | apply below_drew1) | exact HB.out))) : w.heap.size ≤ gb200)); have n3_ := Aside0.mk ((by rw [hg]; exact (below_size (by repeat (first | (with_reducible first | exact HB.out | apply below_alloc | apply pw_below_drewN | apply below_drew1) | exact HB.out))) : w.heap.size ≤ gb200)); clear HB; have HB := n0_; have BK200 := n1_; have GW200 := n2_; have GE200 := n3_; clear n0_ n1_ n2_ n3_; clear hb hbox hg; have hcz8_0 : w7.cell? ⟨gb200, 0, none⟩ = some (.int .i64 0) := (blk_cell BK200.out 0).trans rfl; have hcz8_1 : w7.cell? ⟨gb200, 1, none⟩ = some (.int .i64 0) := (blk_cell BK200.out 1).trans rfl; have hcz8_2 : w7.cell? ⟨gb200, 2, none⟩ = some (.int .i64 0) := (blk_cell BK200.out 2).trans rfl; have hcz8_3 : w7.cell? ⟨gb200, 3, none⟩ = some (.string (⟨#[]⟩ : ByteArray)) := (blk_cell BK200.out 3).trans rfl; have hcz8_4 : w7.cell? ⟨gb200, 4, none⟩ = some (.int .i64 0) := (blk_cell BK200.out 4).trans rfl; have hcz8_5 : w7.cell? ⟨gb200, 5, none⟩ = some (.int .i64 0) := (blk_cell BK200.out 5).trans rfl; have hcz8_6 : w7.cell? ⟨gb200, 6, none⟩ = some (.int .i64 0) := (blk_cell BK200.out 6).trans rfl; have hcz8_7 : w7.cell? ⟨gb200, 7, none⟩ = some (.int .i64 0) := (blk_cell BK200.out 7).trans rfl; have hcz8_8 : w7.cell? ⟨gb200, 8, none⟩ = some (.int .i32 0) := (blk_cell BK200.out 8).trans rfl; have hcz8_9 : w7.cell? ⟨gb200, 9, none⟩ = some (.string (⟨#[]⟩ : ByteArray)) := (blk_cell BK200.out 9).trans rfl; have hcz8_10 : w7.cell? ⟨gb200, 10, none⟩ = some (.int .i64 0) := (blk_cell BK200.out 10).trans rfl; have hcz8_11 : w7.cell? ⟨gb200, 11, none⟩ = some (.slice none 0 0) := (blk_cell BK200.out 11).trans rfl; have hcz8_12 : w7.cell? ⟨gb200, 12, none⟩ = some (.int .u32 0) := (blk_cell BK200.out 12).trans rfl; have hcz8_13 : w7.cell? ⟨gb200, 13, none⟩ = some (.bool false) := (blk_cell BK200.out 13).trans rfl; have hcz8_14 : w7.cell? ⟨gb200, 14, none⟩ = some (.bool false) := (blk_cell BK200.out 14).trans rfl; have hfz8_0 := blk_frozen BK200.out 0; have hfz8_1 := blk_frozen BK200.out 1; have hfz8_2 := blk_frozen BK200.out 2; have hfz8_3 := blk_frozen BK200.out 3; have hfz8_4 := blk_frozen BK200.out 4; have hfz8_5 := blk_frozen BK200.out 5; have hfz8_6 := blk_frozen BK200.out 6; have hfz8_7 := blk_frozen BK200.out 7; have hfz8_8 := blk_frozen BK200.out 8; have hfz8_9 := blk_frozen BK200.out 9; have hfz8_10 := blk_frozen BK200.out 10; have hfz8_11 := blk_frozen BK200.out 11; have hfz8_12 := blk_frozen BK200.out 12; have hfz8_13 := blk_frozen BK200.out 13; have hfz8_14 := blk_frozen BK200.out 14) | ((with_reducible refine gate_callee (f := 13) rfl ?_); refine goesL_ (some 5) rfl rfl Try.func13 (by kernel_rfl) rfl #[.agg #[.int .i64 4, .int .i64 0, .int .i64 0, .string (⟨#[]⟩ : ByteArray), .int .i64 5, .int .i64 0, .int .i64 8, .int .i64 0, .int .i32 0, .string (⟨#[]⟩ : ByteArray), .int .i64 0, .slice none 0 0, .int .u32 0, .bool true, .bool true]] rfl (by (try simp only [List.map_toArray, List.map_cons, List.map_nil]); first | done | rfl | (simp only [List.length_drop, List.length_take]; rfl)) ?_; (refine (span_Classes.calls k 4 0 0 (⟨#[]⟩ : ByteArray) 5 0 8 0 0 (⟨#[]⟩ : ByteArray) 0 _ _ ([] : List (S86)) 0 true true t201 _ ?side1 ?side2 A1.out).mono ?_); (case side1 => exact Kd.C_nil _ _); (case side2 => exact Nat.le_refl _); rintro e w9 ⟨v202, rfl, ho0, hb⟩; refine ⟨_, rfl, ?_⟩; have n0_ := Aside0.mk (Kd.R_lower ho0 (below_size (by repeat (first | (with_reducible first | exact HB.out | apply below_alloc | apply pw_below_drewN | apply below_drew1 | refine below_set ?_ GE200.out) | exact HB.out)))); have n1_ := Aside0.mk (blk_below (g := gb200) (o := .cells #[.int .i64 4, .int .i64 0, .int .i64 0, .string (⟨#[]⟩ : ByteArray), .int .i64 5, .int .i64 0, .int .i64 8, .int .i64 0, .int .i32 0, .string (⟨#[]⟩ : ByteArray), .int .i64 0, .slice none 0 0, .int .u32 0, .bool true, .bool true] 27 (0, 0)) (by (with_reducible repeat (first | refine blk_drewN ?_ _ | refine blk_drew ?_ | refine blk_alloc ?_ _)); refine blk_put (cs := #[.int .i64 4, .int .i64 0, .int .i64 0, .string (⟨#[]⟩ : ByteArray), .int .i64 5, .int .i64 0, .int .i64 8, .int .i64 0, .int .i32 0, .string (⟨#[]⟩ : ByteArray), .int .i64 0, .slice none 0 0, .int .u32 0, .bool true, .bool false]) ?_ 14 _ rfl; (with_reducible repeat (first | refine blk_drewN ?_ _ | refine blk_drew ?_ | refine blk_alloc ?_ _)); refine blk_put (cs := #[.int .i64 4, .int .i64 0, .int .i64 0, .string (⟨#[]⟩ : ByteArray), .int .i64 5, .int .i64 0, .int .i64 8, .int .i64 0, .int .i32 0, .string (⟨#[]⟩ : ByteArray), .int .i64 0, .slice none 0 0, .int .u32 0, .bool false, .bool false]) ?_ 13 _ rfl; (with_reducible repeat (first | refine blk_drewN ?_ _ | refine blk_drew ?_ | refine blk_alloc ?_ _)); refine blk_put (cs := #[.int .i64 4, .int .i64 0, .int .i64 0, .string (⟨#[]⟩ : ByteArray), .int .i64 5, .int .i64 0, .int .i64 8, .int .i64 0, .int .i32 0, .string (⟨#[]⟩ : ByteArray), .int .i64 0, .slice none 0 0, .int .u32 0, .bool false, .bool false]) ?_ 12 _ rfl; (with_reducible repeat (first | refine blk_drewN ?_ _ | refine blk_drew ?_ | refine blk_alloc ?_ _)); refine blk_put (cs := #[.int .i64 4, .int .i64 0, .int .i64 0, .string (⟨#[]⟩ : ByteArray), .int .i64 5, .int .i64 0, .int .i64 8, .int .i64 0, .int .i32 0, .string (⟨#[]⟩ : ByteArray), .int .i64 0, .slice none 0 0, .int .u32 0, .bool false, .bool false]) ?_ 11 _ rfl; (with_reducible repeat (first | refine blk_drewN ?_ _ | refine blk_drew ?_ | refine blk_alloc ?_ _)); refine blk_put (cs := #[.int .i64 4, .int .i64 0, .int .i64 0, .string (⟨#[]⟩ : ByteArray), .int .i64 5, .int .i64 0, .int .i64 8, .int .i64 0, .int .i32 0, .string (⟨#[]⟩ : ByteArray), .int .i64 0, .slice none 0 0, .int .u32 0, .bool false, .bool false]) ?_ 10 _ rfl; (with_reducible repeat (first | refine blk_drewN ?_ _ | refine blk_drew ?_ | refine blk_alloc ?_ _)); refine blk_put (cs := #[.int .i64 4, .int .i64 0, .int .i64 0, .string (⟨#[]⟩ : ByteArray), .int .i64 5, .int .i64 0, .int .i64 8, .int .i64 0, .int .i32 0, .string (⟨#[]⟩ : ByteArray), .int .i64 0, .slice none 0 0, .int .u32 0, .bool false, .bool false]) ?_ 9 _ rfl; (with_reducible repeat (first | refine blk_drewN ?_ _ | refine blk_drew ?_ | refine blk_alloc ?_ _)); refine blk_put (cs := #[.int .i64 4, .int .i64 0, .int .i64 0, .string (⟨#[]⟩ : ByteArray), .int .i64 5, .int .i64 0, .int .i64 8, .int .i64 0, .int .i32 0, .string (⟨#[]⟩ : ByteArray), .int .i64 0, .slice none 0 0, .int .u32 0, .bool false, .bool false]) ?_ 8 _ rfl; (with_reducible repeat (first | refine blk_drewN ?_ _ | refine blk_drew ?_ | refine blk_alloc ?_ _)); refine blk_put (cs := #[.int .i64 4, .int .i64 0, .int .i64 0, .string (⟨#[]⟩ : ByteArray), .int .i64 5, .int .i64 0, .int .i64 8, .int .i64 0, .int .i32 0, .string (⟨#[]⟩ : ByteArray), .int .i64 0, .slice none 0 0, .int .u32 0, .bool false, .bool false]) ?_ 7 _ rfl; (with_reducible repeat (first | refine blk_drewN ?_ _ | refine blk_drew ?_ | refine blk_alloc ?_ _)); refine blk_put (cs := #[.int .i64 4, .int .i64 0, .int .i64 0, .string (⟨#[]⟩ : ByteArray), .int .i64 5, .int .i64 0, .int .i64 0, .int .i64 0, .int .i32 0, .string (⟨#[]⟩ : ByteArray), .int .i64 0, .slice none 0 0, .int .u32 0, .bool false, .bool false]) ?_ 6 _ rfl; (with_reducible repeat (first | refine blk_drewN ?_ _ | refine blk_drew ?_ | refine blk_alloc ?_ _)); refine blk_put (cs := #[.int .i64 4, .int .i64 0, .int .i64 0, .string (⟨#[]⟩ : ByteArray), .int .i64 5, .int .i64 0, .int .i64 0, .int .i64 0, .int .i32 0, .string (⟨#[]⟩ : ByteArray), .int .i64 0, .slice none 0 0, .int .u32 0, .bool false, .bool false]) ?_ 5 _ rfl; (with_reducible repeat (first | refine blk_drewN ?_ _ | refine blk_drew ?_ | refine blk_alloc ?_ _)); refine blk_put (cs := #[.int .i64 4, .int .i64 0, .int .i64 0, .string (⟨#[]⟩ : ByteArray), .int .i64 0, .int .i64 0, .int .i64 0, .int .i64 0, .int .i32 0, .string (⟨#[]⟩ : ByteArray), .int .i64 0, .slice none 0 0, .int .u32 0, .bool false, .bool false]) ?_ 4 _ rfl; (with_reducible repeat (first | refine blk_drewN ?_ _ | refine blk_drew ?_ | refine blk_alloc ?_ _)); refine blk_put (cs := #[.int .i64 4, .int .i64 0, .int .i64 0, .string (⟨#[]⟩ : ByteArray), .int .i64 0, .int .i64 0, .int .i64 0, .int .i64 0, .int .i32 0, .string (⟨#[]⟩ : ByteArray), .int .i64 0, .slice none 0 0, .int .u32 0, .bool false, .bool false]) ?_ 3 _ rfl; (with_reducible repeat (first | refine blk_drewN ?_ _ | refine blk_drew ?_ | refine blk_alloc ?_ _)); refine blk_put (cs := #[.int .i64 4, .int .i64 0, .int .i64 0, .string (⟨#[]⟩ : ByteArray), .int .i64 0, .int .i64 0, .int .i64 0, .int .i64 0, .int .i32 0, .string (⟨#[]⟩ : ByteArray), .int .i64 0, .slice none 0 0, .int .u32 0, .bool false, .bool false]) ?_ 2 _ rfl; (with_reducible repeat (first | refine blk_drewN ?_ _ | refine blk_drew ?_ | refine blk_alloc ?_ _)); refine blk_put (cs := #[.int .i64 4, .int .i64 0, .int .i64 0, .string (⟨#[]⟩ : ByteArray), .int .i64 0, .int .i64 0, .int .i64 0, .int .i64 0, .int .i32 0, .string (⟨#[]⟩ : ByteArray), .int .i64 0, .slice none 0 0, .int .u32 0, .bool false, .bool false]) ?_ 1 _ rfl; (with_reducible repeat (first | refine blk_drewN ?_ _ | refine blk_drew ?_ | refine blk_alloc ?_ _)); refine blk_put (cs := #[.int .i64 0, .int .i64 0, .int .i64 0, .string (⟨#[]⟩ : ByteArray), .int .i64 0, .int .i64 0, .int .i64 0, .int .i64 0, .int .i32 0, .string (⟨#[]⟩ : ByteArray), .int .i64 0, .slice none 0 0, .int .u32 0, .bool false, .bool false]) ?_ 0 _ rfl; (with_reducible repeat (first | refine blk_drewN ?_ _ | refine blk_drew ?_ | refine blk_alloc ?_ _)); exact BK200.out) hb); have n2_ := Aside0.mk (below_step (by repeat (first | (with_reducible first | exact HB.out | apply below_alloc | apply pw_below_drewN | apply below_drew1 | refine below_set ?_ GE200.out) | exact HB.out)) hb); clear BK200; clear HB; have HO203 := n0_; have BK200 := n1_; have HB := n2_; clear n0_ n1_ n2_; (try clear hb); (try clear hb2); (try clear hk); (try clear hi); (try clear ho0)) | ((with_reducible refine gate_dst (N := 6) rfl ?_); refine Kd.R_lit (Kd.int .i64) _ 3 ?hg (N := 6) ?hd (xs := ([2, 4, 8] : List Int)) (inner := [.int .i64 2, .int .i64 4, .int .i64 8]) (ok := fun _ => True) (okp := fun _ => True) ?hr ?hp (fun _ hk => hk) trivial (Below.refl _ _) (Nat.le_refl _) (by simp) ?_; (case hd => rfl); (case hg => rfl); (case hr => first | (go_simp; done) | (go_simp; rfl)); (case hp => exact (Reps.one (show Kd.M (Kd.int .i64) _ _ _ 2 [.int .i64 2] from rfl) (Reps.one (show Kd.M (Kd.int .i64) _ _ _ 4 [.int .i64 4] from rfl) (Reps.one (show Kd.M (Kd.int .i64) _ _ _ 8 [.int .i64 8] from rfl) (Reps.none _ _))))); intro v205 w10 ho11 hb hg_ hnew_; clear hg_ hnew_; (first | rw [← Ny204.out] at ho11 | (simp only [Int.reduceToNat] at ho11; rw [← Ny204.out] at ho11)); have n0_ := Aside0.mk (Kd.R_elder' (by (with_reducible repeat (first | apply Kd.R_alloc | apply Kd.R_drewN | apply Kd.R_drew)); exact HO203.out) (Kd.R_base ho11) hb); have n1_ := Aside0.mk (Kd.R_lower (Kd.R_new' ho11 (Kd.R_lt (by (with_reducible repeat (first | apply Kd.R_alloc | apply Kd.R_drewN | apply Kd.R_drew)); exact HO203.out))) (below_size (by repeat (first | (with_reducible first | exact HB.out | apply below_alloc | apply pw_below_drewN | apply below_drew1 | refine below_set ?_ GE200.out) | exact HB.out)))); have n2_ := Aside0.mk (blk_below (g := gb200) (o := .cells #[.int .i64 4, .int .i64 0, .int .i64 0, .string (⟨#[]⟩ : ByteArray), .int .i64 5, .int .i64 0, .int .i64 8, .int .i64 0, .int .i32 0, .string (⟨#[]⟩ : ByteArray), .int .i64 0, .slice none 0 0, .int .u32 0, .bool true, .bool true] 27 (0, 0)) (by (with_reducible repeat (first | refine blk_drewN ?_ _ | refine blk_drew ?_ | refine blk_alloc ?_ _)); exact BK200.out) hb); have n3_ := Aside0.mk (below_step (by repeat (first | (with_reducible first | exact HB.out | apply below_alloc | apply pw_below_drewN | apply below_drew1 | refine below_set ?_ GE200.out) | exact HB.out)) hb); clear HO203; clear BK200; clear HB; have HO203 := n0_; have HO206 := n1_; have BK200 := n2_; have HB := n3_; clear n0_ n1_ n2_ n3_; clear hb ho11; obtain ⟨Ao12, co12, eo12⟩ := Kd.R_slice HO203.out; subst eo12; obtain ⟨Ao13, co13, eo13⟩ := Kd.R_slice HO206.out; subst eo13) | ((with_reducible refine gate_callee (f := 12) rfl ?_); refine goesL_ (some 7) rfl rfl Try.func12 (by kernel_rfl) rfl #[.slice Ao12 t201.length co12, .slice Ao13 y204.length co13] rfl (by (try simp only [List.map_toArray, List.map_cons, List.map_nil]); first | done | rfl | (simp only [List.length_drop, List.length_take]; rfl)) ?_; (with_reducible refine (typecaselaw18_ints.calls k _ _ t201 _ _ y204 true _ ?side1 ?side2 ?side3 ?side4 A2.out).mono ?_); (case side1 => repeat (first | exact (Kd.R_reads' HO203.out).2.2 | (with_reducible refine Kd.C_alloc ?_ _) | (with_reducible refine Kd.C_drewN ?_ _) | (with_reducible refine Kd.C_drew ?_))); (case side2 => exact (Kd.R_reads' HO203.out).2.1); (case side3 => repeat (first | exact (Kd.R_reads' HO206.out).2.2 | (with_reducible refine Kd.C_alloc ?_ _) | (with_reducible refine Kd.C_drewN ?_ _) | (with_reducible refine Kd.C_drew ?_))); (case side4 => exact (Kd.R_reads' HO206.out).2.1); rintro e w' ⟨rfl, ⟨nd, rfl⟩⟩; refine ⟨_, rfl, ?_⟩; have hcz14_0 : w10.cell? ⟨gb200, 0, none⟩ = some (.int .i64 4) := (blk_cell BK200.out 0).trans rfl; have hcz14_1 : w10.cell? ⟨gb200, 1, none⟩ = some (.int .i64 0) := (blk_cell BK200.out 1).trans rfl; have hcz14_2 : w10.cell? ⟨gb200, 2, none⟩ = some (.int .i64 0) := (blk_cell BK200.out 2).trans rfl; have hcz14_3 : w10.cell? ⟨gb200, 3, none⟩ = some (.string (⟨#[]⟩ : ByteArray)) := (blk_cell BK200.out 3).trans rfl; have hcz14_4 : w10.cell? ⟨gb200, 4, none⟩ = some (.int .i64 5) := (blk_cell BK200.out 4).trans rfl; have hcz14_5 : w10.cell? ⟨gb200, 5, none⟩ = some (.int .i64 0) := (blk_cell BK200.out 5).trans rfl; have hcz14_6 : w10.cell? ⟨gb200, 6, none⟩ = some (.int .i64 8) := (blk_cell BK200.out 6).trans rfl; have hcz14_7 : w10.cell? ⟨gb200, 7, none⟩ = some (.int .i64 0) := (blk_cell BK200.out 7).trans rfl; have hcz14_8 : w10.cell? ⟨gb200, 8, none⟩ = some (.int .i32 0) := (blk_cell BK200.out 8).trans rfl; have hcz14_9 : w10.cell? ⟨gb200, 9, none⟩ = some (.string (⟨#[]⟩ : ByteArray)) := (blk_cell BK200.out 9).trans rfl; have hcz14_10 : w10.cell? ⟨gb200, 10, none⟩ = some (.int .i64 0) := (blk_cell BK200.out 10).trans rfl; have hcz14_11 : w10.cell? ⟨gb200, 11, none⟩ = some (.slice none 0 0) := (blk_cell BK200.out 11).trans rfl; have hcz14_12 : w10.cell? ⟨gb200, 12, none⟩ = some (.int .u32 0) := (blk_cell BK200.out 12).trans rfl; have hcz14_13 : w10.cell? ⟨gb200, 13, none⟩ = some (.bool true) := (blk_cell BK200.out 13).trans rfl; have hcz14_14 : w10.cell? ⟨gb200, 14, none⟩ = some (.bool true) := (blk_cell BK200.out 14).trans rfl; have hfz14_0 := blk_frozen BK200.out 0; have hfz14_1 := blk_frozen BK200.out 1; have hfz14_2 := blk_frozen BK200.out 2; have hfz14_3 := blk_frozen BK200.out 3; have hfz14_4 := blk_frozen BK200.out 4; have hfz14_5 := blk_frozen BK200.out 5; have hfz14_6 := blk_frozen BK200.out 6; have hfz14_7 := blk_frozen BK200.out 7; have hfz14_8 := blk_frozen BK200.out 8; have hfz14_9 := blk_frozen BK200.out 9; have hfz14_10 := blk_frozen BK200.out 10; have hfz14_11 := blk_frozen BK200.out 11; have hfz14_12 := blk_frozen BK200.out 12; have hfz14_13 := blk_frozen BK200.out 13; have hfz14_14 := blk_frozen BK200.out 14) | (go_at_call 8; have _tk := tok8_0; clear _tk; (refine (span_Reaches.calls k 4 0 0 (⟨#[]⟩ : ByteArray) 5 0 8 0 0 (⟨#[]⟩ : ByteArray) 0 _ _ ([] : List (S86)) 0 true true 2 (-256) true _ ?side1 ?side2 A4.out).mono ?_); (case side1 => exact Kd.C_nil _ _); (case side2 => exact Nat.le_refl _); rintro e w15 ⟨rfl, hb⟩; clear tok8_0; have n0_ := Aside0.mk (Kd.R_below (by (with_reducible repeat (first | apply Kd.R_alloc | apply Kd.R_drewN | apply Kd.R_drew)); exact HO203.out) hb); have n1_ := Aside0.mk (Kd.R_below (by (with_reducible repeat (first | apply Kd.R_alloc | apply Kd.R_drewN | apply Kd.R_drew)); exact HO206.out) hb); have n2_ := Aside0.mk (blk_below (g := gb200) (o := .cells #[.int .i64 4, .int .i64 0, .int .i64 0, .string (⟨#[]⟩ : ByteArray), .int .i64 5, .int .i64 0, .int .i64 8, .int .i64 0, .int .i32 0, .string (⟨#[]⟩ : ByteArray), .int .i64 0, .slice none 0 0, .int .u32 0, .bool true, .bool true] 27 (0, 0)) (by (with_reducible repeat (first | refine blk_drewN ?_ _ | refine blk_drew ?_ | refine blk_alloc ?_ _)); exact BK200.out) hb); have n3_ := Aside0.mk (below_step (by repeat (first | (with_reducible first | exact HB.out | apply below_alloc | apply pw_below_drewN | apply below_drew1 | refine below_set ?_ GE200.out) | exact HB.out)) hb); clear HO203; clear HO206; clear BK200; clear HB; have HO203 := n0_; have HO206 := n1_; have BK200 := n2_; have HB := n3_; clear n0_ n1_ n2_ n3_; (try clear hb); (try clear hb2); (try clear hk); (try clear hi); have hcz16_0 : w15.cell? ⟨gb200, 0, none⟩ = some (.int .i64 4) := (blk_cell BK200.out 0).trans rfl; have hcz16_1 : w15.cell? ⟨gb200, 1, none⟩ = some (.int .i64 0) := (blk_cell BK200.out 1).trans rfl; have hcz16_2 : w15.cell? ⟨gb200, 2, none⟩ = some (.int .i64 0) := (blk_cell BK200.out 2).trans rfl; have hcz16_3 : w15.cell? ⟨gb200, 3, none⟩ = some (.string (⟨#[]⟩ : ByteArray)) := (blk_cell BK200.out 3).trans rfl; have hcz16_4 : w15.cell? ⟨gb200, 4, none⟩ = some (.int .i64 5) := (blk_cell BK200.out 4).trans rfl; have hcz16_5 : w15.cell? ⟨gb200, 5, none⟩ = some (.int .i64 0) := (blk_cell BK200.out 5).trans rfl; have hcz16_6 : w15.cell? ⟨gb200, 6, none⟩ = some (.int .i64 8) := (blk_cell BK200.out 6).trans rfl; have hcz16_7 : w15.cell? ⟨gb200, 7, none⟩ = some (.int .i64 0) := (blk_cell BK200.out 7).trans rfl; have hcz16_8 : w15.cell? ⟨gb200, 8, none⟩ = some (.int .i32 0) := (blk_cell BK200.out 8).trans rfl; have hcz16_9 : w15.cell? ⟨gb200, 9, none⟩ = some (.string (⟨#[]⟩ : ByteArray)) := (blk_cell BK200.out 9).trans rfl; have hcz16_10 : w15.cell? ⟨gb200, 10, none⟩ = some (.int .i64 0) := (blk_cell BK200.out 10).trans rfl; have hcz16_11 : w15.cell? ⟨gb200, 11, none⟩ = some (.slice none 0 0) := (blk_cell BK200.out 11).trans rfl; have hcz16_12 : w15.cell? ⟨gb200, 12, none⟩ = some (.int .u32 0) := (blk_cell BK200.out 12).trans rfl; have hcz16_13 : w15.cell? ⟨gb200, 13, none⟩ = some (.bool true) := (blk_cell BK200.out 13).trans rfl; have hcz16_14 : w15.cell? ⟨gb200, 14, none⟩ = some (.bool true) := (blk_cell BK200.out 14).trans rfl; have hfz16_0 := blk_frozen BK200.out 0; have hfz16_1 := blk_frozen BK200.out 1; have hfz16_2 := blk_frozen BK200.out 2; have hfz16_3 := blk_frozen BK200.out 3; have hfz16_4 := blk_frozen BK200.out 4; have hfz16_5 := blk_frozen BK200.out 5; have hfz16_6 := blk_frozen BK200.out 6; have hfz16_7 := blk_frozen BK200.out 7; have hfz16_8 := blk_frozen BK200.out 8; have hfz16_9 := blk_frozen BK200.out 9; have hfz16_10 := blk_frozen BK200.out 10; have hfz16_11 := blk_frozen BK200.out 11; have hfz16_12 := blk_frozen BK200.out 12; have hfz16_13 := blk_frozen BK200.out 13; have hfz16_14 := blk_frozen BK200.out 14) | (go_at_call 8; have _tk := tok8_1; clear _tk; (refine (span_Reaches.calls k 4 0 0 (⟨#[]⟩ : ByteArray) 5 0 8 0 0 (⟨#[]⟩ : ByteArray) 0 _ _ ([] : List (S86)) 0 true true 2 256 t209 _ ?side1 ?side2 A6.out).mono ?_); (case side1 => exact Kd.C_nil _ _); (case side2 => exact Nat.le_refl _); rintro e w17 ⟨rfl, hb⟩; clear tok8_1; have n0_ := Aside0.mk (Kd.R_below (by (with_reducible repeat (first | apply Kd.R_alloc | apply Kd.R_drewN | apply Kd.R_drew)); exact HO203.out) hb); have n1_ := Aside0.mk (Kd.R_below (by (with_reducible repeat (first | apply Kd.R_alloc | apply Kd.R_drewN | apply Kd.R_drew)); exact HO206.out) hb); have n2_ := Aside0.mk (blk_below (g := gb200) (o := .cells #[.int .i64 4, .int .i64 0, .int .i64 0, .string (⟨#[]⟩ : ByteArray), .int .i64 5, .int .i64 0, .int .i64 8, .int .i64 0, .int .i32 0, .string (⟨#[]⟩ : ByteArray), .int .i64 0, .slice none 0 0, .int .u32 0, .bool true, .bool true] 27 (0, 0)) (by (with_reducible repeat (first | refine blk_drewN ?_ _ | refine blk_drew ?_ | refine blk_alloc ?_ _)); exact BK200.out) hb); have n3_ := Aside0.mk (below_step (by repeat (first | (with_reducible first | exact HB.out | apply below_alloc | apply pw_below_drewN | apply below_drew1 | refine below_set ?_ GE200.out) | exact HB.out)) hb); clear HO203; clear HO206; clear BK200; clear HB; have HO203 := n0_; have HO206 := n1_; have BK200 := n2_; have HB := n3_; clear n0_ n1_ n2_ n3_; (try clear hb); (try clear hb2); (try clear hk); (try clear hi)))
      go_ret
      exact ⟨by first | rfl | (simp [errW_none, errW_some] <;> rfl) | (simp [*, errW_none, errW_some] <;> rfl), by repeat (first | (with_reducible first | exact HB.out | apply below_alloc | apply pw_below_drewN | apply below_drew1 | refine below_set ?_ GE200.out) | exact HB.out)⟩
    · replace c5 := Bool.eq_false_iff.mpr c5
      subst c5
      have H1 : (some false) = some r := by rw [if_neg (show ¬ (false = true) by decide)] at H; exact H
      clear H
      have H := H1
      clear H1
      obtain rfl := Option.some.inj H
      go_enter Try.func7, Try.ntmps7
      go_wp2_with (first | ((with_reducible refine gate_dst (N := 1) rfl ?_); refine box_event ?hg (N := 1) ?hd (cs := #[.int .i64 0, .int .i64 0, .int .i64 0, .string (⟨#[]⟩ : ByteArray), .int .i64 0, .int .i64 0, .int .i64 0, .int .i64 0, .int .i32 0, .string (⟨#[]⟩ : ByteArray), .int .i64 0, .slice none 0 0, .int .u32 0, .bool false, .bool false]) (t := 27) ?hr ?_; (case hd => rfl); (case hg => rfl); (case hr => first | (go_simp; done) | (go_simp; rfl)); intro gb200 hg w18 hbox hb; have n0_ := Aside0.mk (below_step (by repeat (first | (with_reducible first | exact HB.out | apply below_alloc | apply pw_below_drewN | apply below_drew1) | exact HB.out)) hb); have n1_ := Aside0.mk (hbox); have n2_ := Aside0.mk ((by rw [hg]; exact (below_size (by repeat (first | (with_reducible first | exact HB.out | apply below_alloc | apply pw_below_drewN | apply below_drew1) | exact HB.out))) : w.heap.size ≤ gb200)); have n3_ := Aside0.mk ((by rw [hg]; exact (below_size (by repeat (first | (with_reducible first | exact HB.out | apply below_alloc | apply pw_below_drewN | apply below_drew1) | exact HB.out))) : w.heap.size ≤ gb200)); clear HB; have HB := n0_; have BK200 := n1_; have GW200 := n2_; have GE200 := n3_; clear n0_ n1_ n2_ n3_; clear hb hbox hg; have hcz19_0 : w18.cell? ⟨gb200, 0, none⟩ = some (.int .i64 0) := (blk_cell BK200.out 0).trans rfl; have hcz19_1 : w18.cell? ⟨gb200, 1, none⟩ = some (.int .i64 0) := (blk_cell BK200.out 1).trans rfl; have hcz19_2 : w18.cell? ⟨gb200, 2, none⟩ = some (.int .i64 0) := (blk_cell BK200.out 2).trans rfl; have hcz19_3 : w18.cell? ⟨gb200, 3, none⟩ = some (.string (⟨#[]⟩ : ByteArray)) := (blk_cell BK200.out 3).trans rfl; have hcz19_4 : w18.cell? ⟨gb200, 4, none⟩ = some (.int .i64 0) := (blk_cell BK200.out 4).trans rfl; have hcz19_5 : w18.cell? ⟨gb200, 5, none⟩ = some (.int .i64 0) := (blk_cell BK200.out 5).trans rfl; have hcz19_6 : w18.cell? ⟨gb200, 6, none⟩ = some (.int .i64 0) := (blk_cell BK200.out 6).trans rfl; have hcz19_7 : w18.cell? ⟨gb200, 7, none⟩ = some (.int .i64 0) := (blk_cell BK200.out 7).trans rfl; have hcz19_8 : w18.cell? ⟨gb200, 8, none⟩ = some (.int .i32 0) := (blk_cell BK200.out 8).trans rfl; have hcz19_9 : w18.cell? ⟨gb200, 9, none⟩ = some (.string (⟨#[]⟩ : ByteArray)) := (blk_cell BK200.out 9).trans rfl; have hcz19_10 : w18.cell? ⟨gb200, 10, none⟩ = some (.int .i64 0) := (blk_cell BK200.out 10).trans rfl; have hcz19_11 : w18.cell? ⟨gb200, 11, none⟩ = some (.slice none 0 0) := (blk_cell BK200.out 11).trans rfl; have hcz19_12 : w18.cell? ⟨gb200, 12, none⟩ = some (.int .u32 0) := (blk_cell BK200.out 12).trans rfl; have hcz19_13 : w18.cell? ⟨gb200, 13, none⟩ = some (.bool false) := (blk_cell BK200.out 13).trans rfl; have hcz19_14 : w18.cell? ⟨gb200, 14, none⟩ = some (.bool false) := (blk_cell BK200.out 14).trans rfl; have hfz19_0 := blk_frozen BK200.out 0; have hfz19_1 := blk_frozen BK200.out 1; have hfz19_2 := blk_frozen BK200.out 2; have hfz19_3 := blk_frozen BK200.out 3; have hfz19_4 := blk_frozen BK200.out 4; have hfz19_5 := blk_frozen BK200.out 5; have hfz19_6 := blk_frozen BK200.out 6; have hfz19_7 := blk_frozen BK200.out 7; have hfz19_8 := blk_frozen BK200.out 8; have hfz19_9 := blk_frozen BK200.out 9; have hfz19_10 := blk_frozen BK200.out 10; have hfz19_11 := blk_frozen BK200.out 11; have hfz19_12 := blk_frozen BK200.out 12; have hfz19_13 := blk_frozen BK200.out 13; have hfz19_14 := blk_frozen BK200.out 14) | ((with_reducible refine gate_callee (f := 13) rfl ?_); refine goesL_ (some 5) rfl rfl Try.func13 (by kernel_rfl) rfl #[.agg #[.int .i64 4, .int .i64 0, .int .i64 0, .string (⟨#[]⟩ : ByteArray), .int .i64 5, .int .i64 0, .int .i64 8, .int .i64 0, .int .i32 0, .string (⟨#[]⟩ : ByteArray), .int .i64 0, .slice none 0 0, .int .u32 0, .bool true, .bool true]] rfl (by (try simp only [List.map_toArray, List.map_cons, List.map_nil]); first | done | rfl | (simp only [List.length_drop, List.length_take]; rfl)) ?_; (refine (span_Classes.calls k 4 0 0 (⟨#[]⟩ : ByteArray) 5 0 8 0 0 (⟨#[]⟩ : ByteArray) 0 _ _ ([] : List (S86)) 0 true true t201 _ ?side1 ?side2 A1.out).mono ?_); (case side1 => exact Kd.C_nil _ _); (case side2 => exact Nat.le_refl _); rintro e w20 ⟨v202, rfl, ho0, hb⟩; refine ⟨_, rfl, ?_⟩; have n0_ := Aside0.mk (Kd.R_lower ho0 (below_size (by repeat (first | (with_reducible first | exact HB.out | apply below_alloc | apply pw_below_drewN | apply below_drew1 | refine below_set ?_ GE200.out) | exact HB.out)))); have n1_ := Aside0.mk (blk_below (g := gb200) (o := .cells #[.int .i64 4, .int .i64 0, .int .i64 0, .string (⟨#[]⟩ : ByteArray), .int .i64 5, .int .i64 0, .int .i64 8, .int .i64 0, .int .i32 0, .string (⟨#[]⟩ : ByteArray), .int .i64 0, .slice none 0 0, .int .u32 0, .bool true, .bool true] 27 (0, 0)) (by (with_reducible repeat (first | refine blk_drewN ?_ _ | refine blk_drew ?_ | refine blk_alloc ?_ _)); refine blk_put (cs := #[.int .i64 4, .int .i64 0, .int .i64 0, .string (⟨#[]⟩ : ByteArray), .int .i64 5, .int .i64 0, .int .i64 8, .int .i64 0, .int .i32 0, .string (⟨#[]⟩ : ByteArray), .int .i64 0, .slice none 0 0, .int .u32 0, .bool true, .bool false]) ?_ 14 _ rfl; (with_reducible repeat (first | refine blk_drewN ?_ _ | refine blk_drew ?_ | refine blk_alloc ?_ _)); refine blk_put (cs := #[.int .i64 4, .int .i64 0, .int .i64 0, .string (⟨#[]⟩ : ByteArray), .int .i64 5, .int .i64 0, .int .i64 8, .int .i64 0, .int .i32 0, .string (⟨#[]⟩ : ByteArray), .int .i64 0, .slice none 0 0, .int .u32 0, .bool false, .bool false]) ?_ 13 _ rfl; (with_reducible repeat (first | refine blk_drewN ?_ _ | refine blk_drew ?_ | refine blk_alloc ?_ _)); refine blk_put (cs := #[.int .i64 4, .int .i64 0, .int .i64 0, .string (⟨#[]⟩ : ByteArray), .int .i64 5, .int .i64 0, .int .i64 8, .int .i64 0, .int .i32 0, .string (⟨#[]⟩ : ByteArray), .int .i64 0, .slice none 0 0, .int .u32 0, .bool false, .bool false]) ?_ 12 _ rfl; (with_reducible repeat (first | refine blk_drewN ?_ _ | refine blk_drew ?_ | refine blk_alloc ?_ _)); refine blk_put (cs := #[.int .i64 4, .int .i64 0, .int .i64 0, .string (⟨#[]⟩ : ByteArray), .int .i64 5, .int .i64 0, .int .i64 8, .int .i64 0, .int .i32 0, .string (⟨#[]⟩ : ByteArray), .int .i64 0, .slice none 0 0, .int .u32 0, .bool false, .bool false]) ?_ 11 _ rfl; (with_reducible repeat (first | refine blk_drewN ?_ _ | refine blk_drew ?_ | refine blk_alloc ?_ _)); refine blk_put (cs := #[.int .i64 4, .int .i64 0, .int .i64 0, .string (⟨#[]⟩ : ByteArray), .int .i64 5, .int .i64 0, .int .i64 8, .int .i64 0, .int .i32 0, .string (⟨#[]⟩ : ByteArray), .int .i64 0, .slice none 0 0, .int .u32 0, .bool false, .bool false]) ?_ 10 _ rfl; (with_reducible repeat (first | refine blk_drewN ?_ _ | refine blk_drew ?_ | refine blk_alloc ?_ _)); refine blk_put (cs := #[.int .i64 4, .int .i64 0, .int .i64 0, .string (⟨#[]⟩ : ByteArray), .int .i64 5, .int .i64 0, .int .i64 8, .int .i64 0, .int .i32 0, .string (⟨#[]⟩ : ByteArray), .int .i64 0, .slice none 0 0, .int .u32 0, .bool false, .bool false]) ?_ 9 _ rfl; (with_reducible repeat (first | refine blk_drewN ?_ _ | refine blk_drew ?_ | refine blk_alloc ?_ _)); refine blk_put (cs := #[.int .i64 4, .int .i64 0, .int .i64 0, .string (⟨#[]⟩ : ByteArray), .int .i64 5, .int .i64 0, .int .i64 8, .int .i64 0, .int .i32 0, .string (⟨#[]⟩ : ByteArray), .int .i64 0, .slice none 0 0, .int .u32 0, .bool false, .bool false]) ?_ 8 _ rfl; (with_reducible repeat (first | refine blk_drewN ?_ _ | refine blk_drew ?_ | refine blk_alloc ?_ _)); refine blk_put (cs := #[.int .i64 4, .int .i64 0, .int .i64 0, .string (⟨#[]⟩ : ByteArray), .int .i64 5, .int .i64 0, .int .i64 8, .int .i64 0, .int .i32 0, .string (⟨#[]⟩ : ByteArray), .int .i64 0, .slice none 0 0, .int .u32 0, .bool false, .bool false]) ?_ 7 _ rfl; (with_reducible repeat (first | refine blk_drewN ?_ _ | refine blk_drew ?_ | refine blk_alloc ?_ _)); refine blk_put (cs := #[.int .i64 4, .int .i64 0, .int .i64 0, .string (⟨#[]⟩ : ByteArray), .int .i64 5, .int .i64 0, .int .i64 0, .int .i64 0, .int .i32 0, .string (⟨#[]⟩ : ByteArray), .int .i64 0, .slice none 0 0, .int .u32 0, .bool false, .bool false]) ?_ 6 _ rfl; (with_reducible repeat (first | refine blk_drewN ?_ _ | refine blk_drew ?_ | refine blk_alloc ?_ _)); refine blk_put (cs := #[.int .i64 4, .int .i64 0, .int .i64 0, .string (⟨#[]⟩ : ByteArray), .int .i64 5, .int .i64 0, .int .i64 0, .int .i64 0, .int .i32 0, .string (⟨#[]⟩ : ByteArray), .int .i64 0, .slice none 0 0, .int .u32 0, .bool false, .bool false]) ?_ 5 _ rfl; (with_reducible repeat (first | refine blk_drewN ?_ _ | refine blk_drew ?_ | refine blk_alloc ?_ _)); refine blk_put (cs := #[.int .i64 4, .int .i64 0, .int .i64 0, .string (⟨#[]⟩ : ByteArray), .int .i64 0, .int .i64 0, .int .i64 0, .int .i64 0, .int .i32 0, .string (⟨#[]⟩ : ByteArray), .int .i64 0, .slice none 0 0, .int .u32 0, .bool false, .bool false]) ?_ 4 _ rfl; (with_reducible repeat (first | refine blk_drewN ?_ _ | refine blk_drew ?_ | refine blk_alloc ?_ _)); refine blk_put (cs := #[.int .i64 4, .int .i64 0, .int .i64 0, .string (⟨#[]⟩ : ByteArray), .int .i64 0, .int .i64 0, .int .i64 0, .int .i64 0, .int .i32 0, .string (⟨#[]⟩ : ByteArray), .int .i64 0, .slice none 0 0, .int .u32 0, .bool false, .bool false]) ?_ 3 _ rfl; (with_reducible repeat (first | refine blk_drewN ?_ _ | refine blk_drew ?_ | refine blk_alloc ?_ _)); refine blk_put (cs := #[.int .i64 4, .int .i64 0, .int .i64 0, .string (⟨#[]⟩ : ByteArray), .int .i64 0, .int .i64 0, .int .i64 0, .int .i64 0, .int .i32 0, .string (⟨#[]⟩ : ByteArray), .int .i64 0, .slice none 0 0, .int .u32 0, .bool false, .bool false]) ?_ 2 _ rfl; (with_reducible repeat (first | refine blk_drewN ?_ _ | refine blk_drew ?_ | refine blk_alloc ?_ _)); refine blk_put (cs := #[.int .i64 4, .int .i64 0, .int .i64 0, .string (⟨#[]⟩ : ByteArray), .int .i64 0, .int .i64 0, .int .i64 0, .int .i64 0, .int .i32 0, .string (⟨#[]⟩ : ByteArray), .int .i64 0, .slice none 0 0, .int .u32 0, .bool false, .bool false]) ?_ 1 _ rfl; (with_reducible repeat (first | refine blk_drewN ?_ _ | refine blk_drew ?_ | refine blk_alloc ?_ _)); refine blk_put (cs := #[.int .i64 0, .int .i64 0, .int .i64 0, .string (⟨#[]⟩ : ByteArray), .int .i64 0, .int .i64 0, .int .i64 0, .int .i64 0, .int .i32 0, .string (⟨#[]⟩ : ByteArray), .int .i64 0, .slice none 0 0, .int .u32 0, .bool false, .bool false]) ?_ 0 _ rfl; (with_reducible repeat (first | refine blk_drewN ?_ _ | refine blk_drew ?_ | refine blk_alloc ?_ _)); exact BK200.out) hb); have n2_ := Aside0.mk (below_step (by repeat (first | (with_reducible first | exact HB.out | apply below_alloc | apply pw_below_drewN | apply below_drew1 | refine below_set ?_ GE200.out) | exact HB.out)) hb); clear BK200; clear HB; have HO203 := n0_; have BK200 := n1_; have HB := n2_; clear n0_ n1_ n2_; (try clear hb); (try clear hb2); (try clear hk); (try clear hi); (try clear ho0)) | ((with_reducible refine gate_dst (N := 6) rfl ?_); refine Kd.R_lit (Kd.int .i64) _ 3 ?hg (N := 6) ?hd (xs := ([2, 4, 8] : List Int)) (inner := [.int .i64 2, .int .i64 4, .int .i64 8]) (ok := fun _ => True) (okp := fun _ => True) ?hr ?hp (fun _ hk => hk) trivial (Below.refl _ _) (Nat.le_refl _) (by simp) ?_; (case hd => rfl); (case hg => rfl); (case hr => first | (go_simp; done) | (go_simp; rfl)); (case hp => exact (Reps.one (show Kd.M (Kd.int .i64) _ _ _ 2 [.int .i64 2] from rfl) (Reps.one (show Kd.M (Kd.int .i64) _ _ _ 4 [.int .i64 4] from rfl) (Reps.one (show Kd.M (Kd.int .i64) _ _ _ 8 [.int .i64 8] from rfl) (Reps.none _ _))))); intro v205 w21 ho22 hb hg_ hnew_; clear hg_ hnew_; (first | rw [← Ny204.out] at ho22 | (simp only [Int.reduceToNat] at ho22; rw [← Ny204.out] at ho22)); have n0_ := Aside0.mk (Kd.R_elder' (by (with_reducible repeat (first | apply Kd.R_alloc | apply Kd.R_drewN | apply Kd.R_drew)); exact HO203.out) (Kd.R_base ho22) hb); have n1_ := Aside0.mk (Kd.R_lower (Kd.R_new' ho22 (Kd.R_lt (by (with_reducible repeat (first | apply Kd.R_alloc | apply Kd.R_drewN | apply Kd.R_drew)); exact HO203.out))) (below_size (by repeat (first | (with_reducible first | exact HB.out | apply below_alloc | apply pw_below_drewN | apply below_drew1 | refine below_set ?_ GE200.out) | exact HB.out)))); have n2_ := Aside0.mk (blk_below (g := gb200) (o := .cells #[.int .i64 4, .int .i64 0, .int .i64 0, .string (⟨#[]⟩ : ByteArray), .int .i64 5, .int .i64 0, .int .i64 8, .int .i64 0, .int .i32 0, .string (⟨#[]⟩ : ByteArray), .int .i64 0, .slice none 0 0, .int .u32 0, .bool true, .bool true] 27 (0, 0)) (by (with_reducible repeat (first | refine blk_drewN ?_ _ | refine blk_drew ?_ | refine blk_alloc ?_ _)); exact BK200.out) hb); have n3_ := Aside0.mk (below_step (by repeat (first | (with_reducible first | exact HB.out | apply below_alloc | apply pw_below_drewN | apply below_drew1 | refine below_set ?_ GE200.out) | exact HB.out)) hb); clear HO203; clear BK200; clear HB; have HO203 := n0_; have HO206 := n1_; have BK200 := n2_; have HB := n3_; clear n0_ n1_ n2_ n3_; clear hb ho22; obtain ⟨Ao23, co23, eo23⟩ := Kd.R_slice HO203.out; subst eo23; obtain ⟨Ao24, co24, eo24⟩ := Kd.R_slice HO206.out; subst eo24) | ((with_reducible refine gate_callee (f := 12) rfl ?_); refine goesL_ (some 7) rfl rfl Try.func12 (by kernel_rfl) rfl #[.slice Ao23 t201.length co23, .slice Ao24 y204.length co24] rfl (by (try simp only [List.map_toArray, List.map_cons, List.map_nil]); first | done | rfl | (simp only [List.length_drop, List.length_take]; rfl)) ?_; (with_reducible refine (typecaselaw18_ints.calls k _ _ t201 _ _ y204 true _ ?side1 ?side2 ?side3 ?side4 A2.out).mono ?_); (case side1 => repeat (first | exact (Kd.R_reads' HO203.out).2.2 | (with_reducible refine Kd.C_alloc ?_ _) | (with_reducible refine Kd.C_drewN ?_ _) | (with_reducible refine Kd.C_drew ?_))); (case side2 => exact (Kd.R_reads' HO203.out).2.1); (case side3 => repeat (first | exact (Kd.R_reads' HO206.out).2.2 | (with_reducible refine Kd.C_alloc ?_ _) | (with_reducible refine Kd.C_drewN ?_ _) | (with_reducible refine Kd.C_drew ?_))); (case side4 => exact (Kd.R_reads' HO206.out).2.1); rintro e w' ⟨rfl, ⟨nd, rfl⟩⟩; refine ⟨_, rfl, ?_⟩; have hcz25_0 : w21.cell? ⟨gb200, 0, none⟩ = some (.int .i64 4) := (blk_cell BK200.out 0).trans rfl; have hcz25_1 : w21.cell? ⟨gb200, 1, none⟩ = some (.int .i64 0) := (blk_cell BK200.out 1).trans rfl; have hcz25_2 : w21.cell? ⟨gb200, 2, none⟩ = some (.int .i64 0) := (blk_cell BK200.out 2).trans rfl; have hcz25_3 : w21.cell? ⟨gb200, 3, none⟩ = some (.string (⟨#[]⟩ : ByteArray)) := (blk_cell BK200.out 3).trans rfl; have hcz25_4 : w21.cell? ⟨gb200, 4, none⟩ = some (.int .i64 5) := (blk_cell BK200.out 4).trans rfl; have hcz25_5 : w21.cell? ⟨gb200, 5, none⟩ = some (.int .i64 0) := (blk_cell BK200.out 5).trans rfl; have hcz25_6 : w21.cell? ⟨gb200, 6, none⟩ = some (.int .i64 8) := (blk_cell BK200.out 6).trans rfl; have hcz25_7 : w21.cell? ⟨gb200, 7, none⟩ = some (.int .i64 0) := (blk_cell BK200.out 7).trans rfl; have hcz25_8 : w21.cell? ⟨gb200, 8, none⟩ = some (.int .i32 0) := (blk_cell BK200.out 8).trans rfl; have hcz25_9 : w21.cell? ⟨gb200, 9, none⟩ = some (.string (⟨#[]⟩ : ByteArray)) := (blk_cell BK200.out 9).trans rfl; have hcz25_10 : w21.cell? ⟨gb200, 10, none⟩ = some (.int .i64 0) := (blk_cell BK200.out 10).trans rfl; have hcz25_11 : w21.cell? ⟨gb200, 11, none⟩ = some (.slice none 0 0) := (blk_cell BK200.out 11).trans rfl; have hcz25_12 : w21.cell? ⟨gb200, 12, none⟩ = some (.int .u32 0) := (blk_cell BK200.out 12).trans rfl; have hcz25_13 : w21.cell? ⟨gb200, 13, none⟩ = some (.bool true) := (blk_cell BK200.out 13).trans rfl; have hcz25_14 : w21.cell? ⟨gb200, 14, none⟩ = some (.bool true) := (blk_cell BK200.out 14).trans rfl; have hfz25_0 := blk_frozen BK200.out 0; have hfz25_1 := blk_frozen BK200.out 1; have hfz25_2 := blk_frozen BK200.out 2; have hfz25_3 := blk_frozen BK200.out 3; have hfz25_4 := blk_frozen BK200.out 4; have hfz25_5 := blk_frozen BK200.out 5; have hfz25_6 := blk_frozen BK200.out 6; have hfz25_7 := blk_frozen BK200.out 7; have hfz25_8 := blk_frozen BK200.out 8; have hfz25_9 := blk_frozen BK200.out 9; have hfz25_10 := blk_frozen BK200.out 10; have hfz25_11 := blk_frozen BK200.out 11; have hfz25_12 := blk_frozen BK200.out 12; have hfz25_13 := blk_frozen BK200.out 13; have hfz25_14 := blk_frozen BK200.out 14) | (go_at_call 8; (refine (span_Reaches.calls k 4 0 0 (⟨#[]⟩ : ByteArray) 5 0 8 0 0 (⟨#[]⟩ : ByteArray) 0 _ _ ([] : List (S86)) 0 true true 2 (-256) false _ ?side1 ?side2 A4.out).mono ?_); (case side1 => exact Kd.C_nil _ _); (case side2 => exact Nat.le_refl _); rintro e w26 ⟨rfl, hb⟩; have n0_ := Aside0.mk (Kd.R_below (by (with_reducible repeat (first | apply Kd.R_alloc | apply Kd.R_drewN | apply Kd.R_drew)); exact HO203.out) hb); have n1_ := Aside0.mk (Kd.R_below (by (with_reducible repeat (first | apply Kd.R_alloc | apply Kd.R_drewN | apply Kd.R_drew)); exact HO206.out) hb); have n2_ := Aside0.mk (blk_below (g := gb200) (o := .cells #[.int .i64 4, .int .i64 0, .int .i64 0, .string (⟨#[]⟩ : ByteArray), .int .i64 5, .int .i64 0, .int .i64 8, .int .i64 0, .int .i32 0, .string (⟨#[]⟩ : ByteArray), .int .i64 0, .slice none 0 0, .int .u32 0, .bool true, .bool true] 27 (0, 0)) (by (with_reducible repeat (first | refine blk_drewN ?_ _ | refine blk_drew ?_ | refine blk_alloc ?_ _)); exact BK200.out) hb); have n3_ := Aside0.mk (below_step (by repeat (first | (with_reducible first | exact HB.out | apply below_alloc | apply pw_below_drewN | apply below_drew1 | refine below_set ?_ GE200.out) | exact HB.out)) hb); clear HO203; clear HO206; clear BK200; clear HB; have HO203 := n0_; have HO206 := n1_; have BK200 := n2_; have HB := n3_; clear n0_ n1_ n2_ n3_; (try clear hb); (try clear hb2); (try clear hk); (try clear hi)))
      go_ret
      exact ⟨by first | rfl | (simp [errW_none, errW_some] <;> rfl) | (simp [*, errW_none, errW_some] <;> rfl), by repeat (first | (with_reducible first | exact HB.out | apply below_alloc | apply pw_below_drewN | apply below_drew1 | refine below_set ?_ GE200.out) | exact HB.out)⟩
  · replace c3 := Bool.eq_false_iff.mpr c3
    subst c3
    have H1 : (some false) = some r := by rw [if_neg (show ¬ (false = true) by decide)] at H; exact H
    clear H
    have H := H1
    clear H1
    obtain rfl := Option.some.inj H
    go_enter Try.func7, Try.ntmps7
    go_wp2_with (first | ((with_reducible refine gate_dst (N := 1) rfl ?_); refine box_event ?hg (N := 1) ?hd (cs := #[.int .i64 0, .int .i64 0, .int .i64 0, .string (⟨#[]⟩ : ByteArray), .int .i64 0, .int .i64 0, .int .i64 0, .int .i64 0, .int .i32 0, .string (⟨#[]⟩ : ByteArray), .int .i64 0, .slice none 0 0, .int .u32 0, .bool false, .bool false]) (t := 27) ?hr ?_; (case hd => rfl); (case hg => rfl); (case hr => first | (go_simp; done) | (go_simp; rfl)); intro gb200 hg w27 hbox hb; have n0_ := Aside0.mk (below_step (by repeat (first | (with_reducible first | exact HB.out | apply below_alloc | apply pw_below_drewN | apply below_drew1) | exact HB.out)) hb); have n1_ := Aside0.mk (hbox); have n2_ := Aside0.mk ((by rw [hg]; exact (below_size (by repeat (first | (with_reducible first | exact HB.out | apply below_alloc | apply pw_below_drewN | apply below_drew1) | exact HB.out))) : w.heap.size ≤ gb200)); have n3_ := Aside0.mk ((by rw [hg]; exact (below_size (by repeat (first | (with_reducible first | exact HB.out | apply below_alloc | apply pw_below_drewN | apply below_drew1) | exact HB.out))) : w.heap.size ≤ gb200)); clear HB; have HB := n0_; have BK200 := n1_; have GW200 := n2_; have GE200 := n3_; clear n0_ n1_ n2_ n3_; clear hb hbox hg; have hcz28_0 : w27.cell? ⟨gb200, 0, none⟩ = some (.int .i64 0) := (blk_cell BK200.out 0).trans rfl; have hcz28_1 : w27.cell? ⟨gb200, 1, none⟩ = some (.int .i64 0) := (blk_cell BK200.out 1).trans rfl; have hcz28_2 : w27.cell? ⟨gb200, 2, none⟩ = some (.int .i64 0) := (blk_cell BK200.out 2).trans rfl; have hcz28_3 : w27.cell? ⟨gb200, 3, none⟩ = some (.string (⟨#[]⟩ : ByteArray)) := (blk_cell BK200.out 3).trans rfl; have hcz28_4 : w27.cell? ⟨gb200, 4, none⟩ = some (.int .i64 0) := (blk_cell BK200.out 4).trans rfl; have hcz28_5 : w27.cell? ⟨gb200, 5, none⟩ = some (.int .i64 0) := (blk_cell BK200.out 5).trans rfl; have hcz28_6 : w27.cell? ⟨gb200, 6, none⟩ = some (.int .i64 0) := (blk_cell BK200.out 6).trans rfl; have hcz28_7 : w27.cell? ⟨gb200, 7, none⟩ = some (.int .i64 0) := (blk_cell BK200.out 7).trans rfl; have hcz28_8 : w27.cell? ⟨gb200, 8, none⟩ = some (.int .i32 0) := (blk_cell BK200.out 8).trans rfl; have hcz28_9 : w27.cell? ⟨gb200, 9, none⟩ = some (.string (⟨#[]⟩ : ByteArray)) := (blk_cell BK200.out 9).trans rfl; have hcz28_10 : w27.cell? ⟨gb200, 10, none⟩ = some (.int .i64 0) := (blk_cell BK200.out 10).trans rfl; have hcz28_11 : w27.cell? ⟨gb200, 11, none⟩ = some (.slice none 0 0) := (blk_cell BK200.out 11).trans rfl; have hcz28_12 : w27.cell? ⟨gb200, 12, none⟩ = some (.int .u32 0) := (blk_cell BK200.out 12).trans rfl; have hcz28_13 : w27.cell? ⟨gb200, 13, none⟩ = some (.bool false) := (blk_cell BK200.out 13).trans rfl; have hcz28_14 : w27.cell? ⟨gb200, 14, none⟩ = some (.bool false) := (blk_cell BK200.out 14).trans rfl; have hfz28_0 := blk_frozen BK200.out 0; have hfz28_1 := blk_frozen BK200.out 1; have hfz28_2 := blk_frozen BK200.out 2; have hfz28_3 := blk_frozen BK200.out 3; have hfz28_4 := blk_frozen BK200.out 4; have hfz28_5 := blk_frozen BK200.out 5; have hfz28_6 := blk_frozen BK200.out 6; have hfz28_7 := blk_frozen BK200.out 7; have hfz28_8 := blk_frozen BK200.out 8; have hfz28_9 := blk_frozen BK200.out 9; have hfz28_10 := blk_frozen BK200.out 10; have hfz28_11 := blk_frozen BK200.out 11; have hfz28_12 := blk_frozen BK200.out 12; have hfz28_13 := blk_frozen BK200.out 13; have hfz28_14 := blk_frozen BK200.out 14) | ((with_reducible refine gate_callee (f := 13) rfl ?_); refine goesL_ (some 5) rfl rfl Try.func13 (by kernel_rfl) rfl #[.agg #[.int .i64 4, .int .i64 0, .int .i64 0, .string (⟨#[]⟩ : ByteArray), .int .i64 5, .int .i64 0, .int .i64 8, .int .i64 0, .int .i32 0, .string (⟨#[]⟩ : ByteArray), .int .i64 0, .slice none 0 0, .int .u32 0, .bool true, .bool true]] rfl (by (try simp only [List.map_toArray, List.map_cons, List.map_nil]); first | done | rfl | (simp only [List.length_drop, List.length_take]; rfl)) ?_; (refine (span_Classes.calls k 4 0 0 (⟨#[]⟩ : ByteArray) 5 0 8 0 0 (⟨#[]⟩ : ByteArray) 0 _ _ ([] : List (S86)) 0 true true t201 _ ?side1 ?side2 A1.out).mono ?_); (case side1 => exact Kd.C_nil _ _); (case side2 => exact Nat.le_refl _); rintro e w29 ⟨v202, rfl, ho0, hb⟩; refine ⟨_, rfl, ?_⟩; have n0_ := Aside0.mk (Kd.R_lower ho0 (below_size (by repeat (first | (with_reducible first | exact HB.out | apply below_alloc | apply pw_below_drewN | apply below_drew1 | refine below_set ?_ GE200.out) | exact HB.out)))); have n1_ := Aside0.mk (blk_below (g := gb200) (o := .cells #[.int .i64 4, .int .i64 0, .int .i64 0, .string (⟨#[]⟩ : ByteArray), .int .i64 5, .int .i64 0, .int .i64 8, .int .i64 0, .int .i32 0, .string (⟨#[]⟩ : ByteArray), .int .i64 0, .slice none 0 0, .int .u32 0, .bool true, .bool true] 27 (0, 0)) (by (with_reducible repeat (first | refine blk_drewN ?_ _ | refine blk_drew ?_ | refine blk_alloc ?_ _)); refine blk_put (cs := #[.int .i64 4, .int .i64 0, .int .i64 0, .string (⟨#[]⟩ : ByteArray), .int .i64 5, .int .i64 0, .int .i64 8, .int .i64 0, .int .i32 0, .string (⟨#[]⟩ : ByteArray), .int .i64 0, .slice none 0 0, .int .u32 0, .bool true, .bool false]) ?_ 14 _ rfl; (with_reducible repeat (first | refine blk_drewN ?_ _ | refine blk_drew ?_ | refine blk_alloc ?_ _)); refine blk_put (cs := #[.int .i64 4, .int .i64 0, .int .i64 0, .string (⟨#[]⟩ : ByteArray), .int .i64 5, .int .i64 0, .int .i64 8, .int .i64 0, .int .i32 0, .string (⟨#[]⟩ : ByteArray), .int .i64 0, .slice none 0 0, .int .u32 0, .bool false, .bool false]) ?_ 13 _ rfl; (with_reducible repeat (first | refine blk_drewN ?_ _ | refine blk_drew ?_ | refine blk_alloc ?_ _)); refine blk_put (cs := #[.int .i64 4, .int .i64 0, .int .i64 0, .string (⟨#[]⟩ : ByteArray), .int .i64 5, .int .i64 0, .int .i64 8, .int .i64 0, .int .i32 0, .string (⟨#[]⟩ : ByteArray), .int .i64 0, .slice none 0 0, .int .u32 0, .bool false, .bool false]) ?_ 12 _ rfl; (with_reducible repeat (first | refine blk_drewN ?_ _ | refine blk_drew ?_ | refine blk_alloc ?_ _)); refine blk_put (cs := #[.int .i64 4, .int .i64 0, .int .i64 0, .string (⟨#[]⟩ : ByteArray), .int .i64 5, .int .i64 0, .int .i64 8, .int .i64 0, .int .i32 0, .string (⟨#[]⟩ : ByteArray), .int .i64 0, .slice none 0 0, .int .u32 0, .bool false, .bool false]) ?_ 11 _ rfl; (with_reducible repeat (first | refine blk_drewN ?_ _ | refine blk_drew ?_ | refine blk_alloc ?_ _)); refine blk_put (cs := #[.int .i64 4, .int .i64 0, .int .i64 0, .string (⟨#[]⟩ : ByteArray), .int .i64 5, .int .i64 0, .int .i64 8, .int .i64 0, .int .i32 0, .string (⟨#[]⟩ : ByteArray), .int .i64 0, .slice none 0 0, .int .u32 0, .bool false, .bool false]) ?_ 10 _ rfl; (with_reducible repeat (first | refine blk_drewN ?_ _ | refine blk_drew ?_ | refine blk_alloc ?_ _)); refine blk_put (cs := #[.int .i64 4, .int .i64 0, .int .i64 0, .string (⟨#[]⟩ : ByteArray), .int .i64 5, .int .i64 0, .int .i64 8, .int .i64 0, .int .i32 0, .string (⟨#[]⟩ : ByteArray), .int .i64 0, .slice none 0 0, .int .u32 0, .bool false, .bool false]) ?_ 9 _ rfl; (with_reducible repeat (first | refine blk_drewN ?_ _ | refine blk_drew ?_ | refine blk_alloc ?_ _)); refine blk_put (cs := #[.int .i64 4, .int .i64 0, .int .i64 0, .string (⟨#[]⟩ : ByteArray), .int .i64 5, .int .i64 0, .int .i64 8, .int .i64 0, .int .i32 0, .string (⟨#[]⟩ : ByteArray), .int .i64 0, .slice none 0 0, .int .u32 0, .bool false, .bool false]) ?_ 8 _ rfl; (with_reducible repeat (first | refine blk_drewN ?_ _ | refine blk_drew ?_ | refine blk_alloc ?_ _)); refine blk_put (cs := #[.int .i64 4, .int .i64 0, .int .i64 0, .string (⟨#[]⟩ : ByteArray), .int .i64 5, .int .i64 0, .int .i64 8, .int .i64 0, .int .i32 0, .string (⟨#[]⟩ : ByteArray), .int .i64 0, .slice none 0 0, .int .u32 0, .bool false, .bool false]) ?_ 7 _ rfl; (with_reducible repeat (first | refine blk_drewN ?_ _ | refine blk_drew ?_ | refine blk_alloc ?_ _)); refine blk_put (cs := #[.int .i64 4, .int .i64 0, .int .i64 0, .string (⟨#[]⟩ : ByteArray), .int .i64 5, .int .i64 0, .int .i64 0, .int .i64 0, .int .i32 0, .string (⟨#[]⟩ : ByteArray), .int .i64 0, .slice none 0 0, .int .u32 0, .bool false, .bool false]) ?_ 6 _ rfl; (with_reducible repeat (first | refine blk_drewN ?_ _ | refine blk_drew ?_ | refine blk_alloc ?_ _)); refine blk_put (cs := #[.int .i64 4, .int .i64 0, .int .i64 0, .string (⟨#[]⟩ : ByteArray), .int .i64 5, .int .i64 0, .int .i64 0, .int .i64 0, .int .i32 0, .string (⟨#[]⟩ : ByteArray), .int .i64 0, .slice none 0 0, .int .u32 0, .bool false, .bool false]) ?_ 5 _ rfl; (with_reducible repeat (first | refine blk_drewN ?_ _ | refine blk_drew ?_ | refine blk_alloc ?_ _)); refine blk_put (cs := #[.int .i64 4, .int .i64 0, .int .i64 0, .string (⟨#[]⟩ : ByteArray), .int .i64 0, .int .i64 0, .int .i64 0, .int .i64 0, .int .i32 0, .string (⟨#[]⟩ : ByteArray), .int .i64 0, .slice none 0 0, .int .u32 0, .bool false, .bool false]) ?_ 4 _ rfl; (with_reducible repeat (first | refine blk_drewN ?_ _ | refine blk_drew ?_ | refine blk_alloc ?_ _)); refine blk_put (cs := #[.int .i64 4, .int .i64 0, .int .i64 0, .string (⟨#[]⟩ : ByteArray), .int .i64 0, .int .i64 0, .int .i64 0, .int .i64 0, .int .i32 0, .string (⟨#[]⟩ : ByteArray), .int .i64 0, .slice none 0 0, .int .u32 0, .bool false, .bool false]) ?_ 3 _ rfl; (with_reducible repeat (first | refine blk_drewN ?_ _ | refine blk_drew ?_ | refine blk_alloc ?_ _)); refine blk_put (cs := #[.int .i64 4, .int .i64 0, .int .i64 0, .string (⟨#[]⟩ : ByteArray), .int .i64 0, .int .i64 0, .int .i64 0, .int .i64 0, .int .i32 0, .string (⟨#[]⟩ : ByteArray), .int .i64 0, .slice none 0 0, .int .u32 0, .bool false, .bool false]) ?_ 2 _ rfl; (with_reducible repeat (first | refine blk_drewN ?_ _ | refine blk_drew ?_ | refine blk_alloc ?_ _)); refine blk_put (cs := #[.int .i64 4, .int .i64 0, .int .i64 0, .string (⟨#[]⟩ : ByteArray), .int .i64 0, .int .i64 0, .int .i64 0, .int .i64 0, .int .i32 0, .string (⟨#[]⟩ : ByteArray), .int .i64 0, .slice none 0 0, .int .u32 0, .bool false, .bool false]) ?_ 1 _ rfl; (with_reducible repeat (first | refine blk_drewN ?_ _ | refine blk_drew ?_ | refine blk_alloc ?_ _)); refine blk_put (cs := #[.int .i64 0, .int .i64 0, .int .i64 0, .string (⟨#[]⟩ : ByteArray), .int .i64 0, .int .i64 0, .int .i64 0, .int .i64 0, .int .i32 0, .string (⟨#[]⟩ : ByteArray), .int .i64 0, .slice none 0 0, .int .u32 0, .bool false, .bool false]) ?_ 0 _ rfl; (with_reducible repeat (first | refine blk_drewN ?_ _ | refine blk_drew ?_ | refine blk_alloc ?_ _)); exact BK200.out) hb); have n2_ := Aside0.mk (below_step (by repeat (first | (with_reducible first | exact HB.out | apply below_alloc | apply pw_below_drewN | apply below_drew1 | refine below_set ?_ GE200.out) | exact HB.out)) hb); clear BK200; clear HB; have HO203 := n0_; have BK200 := n1_; have HB := n2_; clear n0_ n1_ n2_; (try clear hb); (try clear hb2); (try clear hk); (try clear hi); (try clear ho0)) | ((with_reducible refine gate_dst (N := 6) rfl ?_); refine Kd.R_lit (Kd.int .i64) _ 3 ?hg (N := 6) ?hd (xs := ([2, 4, 8] : List Int)) (inner := [.int .i64 2, .int .i64 4, .int .i64 8]) (ok := fun _ => True) (okp := fun _ => True) ?hr ?hp (fun _ hk => hk) trivial (Below.refl _ _) (Nat.le_refl _) (by simp) ?_; (case hd => rfl); (case hg => rfl); (case hr => first | (go_simp; done) | (go_simp; rfl)); (case hp => exact (Reps.one (show Kd.M (Kd.int .i64) _ _ _ 2 [.int .i64 2] from rfl) (Reps.one (show Kd.M (Kd.int .i64) _ _ _ 4 [.int .i64 4] from rfl) (Reps.one (show Kd.M (Kd.int .i64) _ _ _ 8 [.int .i64 8] from rfl) (Reps.none _ _))))); intro v205 w30 ho31 hb hg_ hnew_; clear hg_ hnew_; (first | rw [← Ny204.out] at ho31 | (simp only [Int.reduceToNat] at ho31; rw [← Ny204.out] at ho31)); have n0_ := Aside0.mk (Kd.R_elder' (by (with_reducible repeat (first | apply Kd.R_alloc | apply Kd.R_drewN | apply Kd.R_drew)); exact HO203.out) (Kd.R_base ho31) hb); have n1_ := Aside0.mk (Kd.R_lower (Kd.R_new' ho31 (Kd.R_lt (by (with_reducible repeat (first | apply Kd.R_alloc | apply Kd.R_drewN | apply Kd.R_drew)); exact HO203.out))) (below_size (by repeat (first | (with_reducible first | exact HB.out | apply below_alloc | apply pw_below_drewN | apply below_drew1 | refine below_set ?_ GE200.out) | exact HB.out)))); have n2_ := Aside0.mk (blk_below (g := gb200) (o := .cells #[.int .i64 4, .int .i64 0, .int .i64 0, .string (⟨#[]⟩ : ByteArray), .int .i64 5, .int .i64 0, .int .i64 8, .int .i64 0, .int .i32 0, .string (⟨#[]⟩ : ByteArray), .int .i64 0, .slice none 0 0, .int .u32 0, .bool true, .bool true] 27 (0, 0)) (by (with_reducible repeat (first | refine blk_drewN ?_ _ | refine blk_drew ?_ | refine blk_alloc ?_ _)); exact BK200.out) hb); have n3_ := Aside0.mk (below_step (by repeat (first | (with_reducible first | exact HB.out | apply below_alloc | apply pw_below_drewN | apply below_drew1 | refine below_set ?_ GE200.out) | exact HB.out)) hb); clear HO203; clear BK200; clear HB; have HO203 := n0_; have HO206 := n1_; have BK200 := n2_; have HB := n3_; clear n0_ n1_ n2_ n3_; clear hb ho31; obtain ⟨Ao32, co32, eo32⟩ := Kd.R_slice HO203.out; subst eo32; obtain ⟨Ao33, co33, eo33⟩ := Kd.R_slice HO206.out; subst eo33) | ((with_reducible refine gate_callee (f := 12) rfl ?_); refine goesL_ (some 7) rfl rfl Try.func12 (by kernel_rfl) rfl #[.slice Ao32 t201.length co32, .slice Ao33 y204.length co33] rfl (by (try simp only [List.map_toArray, List.map_cons, List.map_nil]); first | done | rfl | (simp only [List.length_drop, List.length_take]; rfl)) ?_; (with_reducible refine (typecaselaw18_ints.calls k _ _ t201 _ _ y204 false _ ?side1 ?side2 ?side3 ?side4 A2.out).mono ?_); (case side1 => repeat (first | exact (Kd.R_reads' HO203.out).2.2 | (with_reducible refine Kd.C_alloc ?_ _) | (with_reducible refine Kd.C_drewN ?_ _) | (with_reducible refine Kd.C_drew ?_))); (case side2 => exact (Kd.R_reads' HO203.out).2.1); (case side3 => repeat (first | exact (Kd.R_reads' HO206.out).2.2 | (with_reducible refine Kd.C_alloc ?_ _) | (with_reducible refine Kd.C_drewN ?_ _) | (with_reducible refine Kd.C_drew ?_))); (case side4 => exact (Kd.R_reads' HO206.out).2.1); rintro e w' ⟨rfl, ⟨nd, rfl⟩⟩; refine ⟨_, rfl, ?_⟩))
    go_ret
    exact ⟨by first | rfl | (simp [errW_none, errW_some] <;> rfl) | (simp [*, errW_none, errW_some] <;> rfl), by repeat (first | (with_reducible first | exact HB.out | apply below_alloc | apply pw_below_drewN | apply below_drew1 | refine below_set ?_ GE200.out) | exact HB.out)⟩

/-! ### span_least_int: function 17 -/
def span_least_int.l0 : Nat → Int → Int → Bool → List Int → Int → Int → Option (Int × Bool)
  | 0, _, _, _, _, _, _ => none
  | k + 1, x1, x6, x7, x11, x12, x13 => if x13 < x12 then (if 0 ≤ x13 then (if x13 < (x11.length : Int) then (if (rd x11 x13) > x1 then (if x7 = true then (if (rd x11 x13) < x6 then (span_least_int.l0 k x1 (rd x11 x13) true x11 x12 (wrap64 (x13 + 1))) else (span_least_int.l0 k x1 x6 x7 x11 x12 (wrap64 (x13 + 1)))) else (span_least_int.l0 k x1 (rd x11 x13) true x11 x12 (wrap64 (x13 + 1)))) else (span_least_int.l0 k x1 x6 x7 x11 x12 (wrap64 (x13 + 1)))) else (none)) else (none)) else (some (x6, x7))
def span_least_int.f (k : Nat) (l0 : List Int) (a1 : Int) : Option (Int × Bool) := span_least_int.l0 k a1 a1 false l0 (l0.length : Int) 0
theorem span_least_int.mono_l : ∀ k, (∀ y0 y1 y2 y3 y4 y5, LeO (span_least_int.l0 k y0 y1 y2 y3 y4 y5) (span_least_int.l0 (k + 1) y0 y1 y2 y3 y4 y5))
  | 0 => fun _ _ _ _ _ _ r h => by simp [span_least_int.l0] at h
  | k + 1 => by
    have ih0 := span_least_int.mono_l k
    · intro y0 y1 y2 y3 y4 y5
      unfold span_least_int.l0
      repeat' first
      | (with_reducible exact ih0 _ _ _ _ _ _)
      | (with_reducible exact LeO.refl _)
      | (with_reducible exact LeO.none _)
      | (with_reducible refine LeO.ite ?_ ?_)
      | (with_reducible refine LeO.bind ?_ (fun _ => ?_))
      | exact ih0 _ _ _ _ _ _
      | exact LeO.none _
      | refine LeO.ite ?_ ?_
      | refine LeO.bind ?_ (fun _ => ?_)
theorem span_least_int.mono : ∀ a0 a1 k, LeO (span_least_int.f k a0 a1) (span_least_int.f (k + 1) a0 a1) := by
  intro a0 a1 k
  have ih0 := span_least_int.mono_l k
  unfold span_least_int.f
  repeat' first
      | (with_reducible exact ih0 _ _ _ _ _ _)
      | (with_reducible exact LeO.refl _)
      | (with_reducible exact LeO.none _)
      | (with_reducible refine LeO.ite ?_ ?_)
      | (with_reducible refine LeO.bind ?_ (fun _ => ?_))
      | exact ih0 _ _ _ _ _ _
      | exact LeO.none _
      | refine LeO.ite ?_ ?_
      | refine LeO.bind ?_ (fun _ => ?_)
set_option maxHeartbeats 8000000 in
set_option maxRecDepth 100000 in
theorem span_least_int.calls (k : Nat) (A0 : Option Addr) (c0 : Nat) (l0 : List Int) (a1 : Int) (r1 : Int) (r2 : Bool) (w : World) (hr0 : Kd.C (Kd.int .i64) w A0 l0.length l0) (hc0 : l0.length ≤ c0) (h : span_least_int.f k l0 a1 = some (r1, r2)) :
    Calls Try.prog 17 #[.slice A0 l0.length c0, .int .i64 a1] w fun e w' => e = .returned (.tuple #[.int .i64 r1, .bool r2]) ∧ Drawn0 w w' := by
  have HR0 := Aside0.mk hr0
  have HC0 := Aside0.mk hc0
  clear hr0 hc0
  have H : (span_least_int.l0 k a1 a1 false l0 (l0.length : Int) 0) = some (r1, r2) := h
  clear h
  have H' := Aside0.mk H
  clear H
  go_enter Try.func17, Try.ntmps17
  go_wp2
  go_loopg [6, 7, 13] k (fun kq v6 v7 v13 w' => ∃ (x6_1 : Int) (x7_1 : Bool) (x13_1 : Int), v6 = .int .i64 x6_1 ∧ v7 = .bool x7_1 ∧ v13 = .int .i64 x13_1 ∧ Aside0 (span_least_int.l0 kq a1 x6_1 x7_1 l0 (l0.length : Int) x13_1 = some (r1, r2)) ∧ Aside0 (kq ≤ k) ∧ Drawn0 w w')
  case atStart => exact ⟨(a1), (false), (0), (by first | rfl | (simp; done) | (simp [*]; done)), (by first | rfl | (simp; done) | (simp [*]; done)), (by first | rfl | (simp; done) | (simp [*]; done)), H', ⟨Nat.le_refl _⟩, by repeat (first | exact Drawn0.refl _ | apply Drawn0.step)⟩
  case round =>
    clear H'
    try clear c1
    try clear p2
    obtain ⟨x6_1, x7_1, x13_1, rfl, rfl, rfl, HA, HK1, ⟨m1, rfl⟩⟩ := hrel
    cases gk with
    | zero => exact absurd HA.out (by simp [span_least_int.l0])
    | succ k1 =>
      have H := HA.out
      clear HA
      simp only [span_least_int.l0] at H
      by_cases c3 : x13_1 < (l0.length : Int)
      · rw [if_pos c3] at H
        have c3b0 : decide (x13_1 < (l0.length : Int)) = true := decide_eq_true c3
        clear c3
        by_cases c4 : 0 ≤ x13_1
        · rw [if_pos c4] at H
          have c4b0 : decide (0 ≤ x13_1) = true := decide_eq_true c4
          clear c4
          by_cases c5 : x13_1 < (l0.length : Int)
          · rw [if_pos c5] at H
            have c5b0 : decide (x13_1 < (l0.length : Int)) = true := decide_eq_true c5
            clear c5
            by_cases c6 : (rd l0 x13_1) > a1
            · rw [if_pos c6] at H
              have c6b0 : decide (a1 < (rd l0 x13_1)) = true := decide_eq_true c6
              clear c6
              by_cases c7 : x7_1 = true
              · subst c7
                have H1 : (if (rd l0 x13_1) < x6_1 then (span_least_int.l0 k1 a1 (rd l0 x13_1) true l0 (l0.length : Int) (wrap64 (x13_1 + 1))) else (span_least_int.l0 k1 a1 x6_1 true l0 (l0.length : Int) (wrap64 (x13_1 + 1)))) = some (r1, r2) := by rw [if_pos rfl] at H; exact H
                clear H
                have H := H1
                clear H1
                by_cases c8 : (rd l0 x13_1) < x6_1
                · rw [if_pos c8] at H
                  have c8b0 : decide ((rd l0 x13_1) < x6_1) = true := decide_eq_true c8
                  clear c8
                  have H' := Aside0.mk H
                  clear H
                  have p210 : 0 ≤ (x13_1 : Int) := of_decide_eq_true (by first | (with_reducible assumption) | assumption)
                  have q210 : x13_1 < (l0.length : Int) := of_decide_eq_true (by first | (with_reducible assumption) | assumption)
                  obtain ⟨ad210, e210, hx210_0⟩ := Kd.at_int HR0.out x13_1 p210 q210
                  cases e210
                  replace p210 := eq_true p210
                  replace q210 := eq_true q210
                  go_wp2
                  go_roundg k1
                  case measure => have := HK1.out; omega
                  case rel => exact ⟨(rd l0 x13_1), (true), (wrap64 (x13_1 + 1)), (by first | rfl | (simp; done) | (simp [*]; done)), (by first | rfl | (simp; done) | (simp [*]; done)), (by first | rfl | (simp; done) | (simp [*]; done)), H', ⟨by have := HK1.out; omega⟩, by repeat (first | exact Drawn0.refl _ | apply Drawn0.step)⟩
                · rw [if_neg c8] at H
                  have c8b0 : decide ((rd l0 x13_1) < x6_1) = false := decide_eq_false c8
                  clear c8
                  have H' := Aside0.mk H
                  clear H
                  have p210 : 0 ≤ (x13_1 : Int) := of_decide_eq_true (by first | (with_reducible assumption) | assumption)
                  have q210 : x13_1 < (l0.length : Int) := of_decide_eq_true (by first | (with_reducible assumption) | assumption)
                  obtain ⟨ad210, e210, hx210_0⟩ := Kd.at_int HR0.out x13_1 p210 q210
                  cases e210
                  replace p210 := eq_true p210
                  replace q210 := eq_true q210
                  go_wp2
                  go_roundg k1
                  case measure => have := HK1.out; omega
                  case rel => exact ⟨(x6_1), (true), (wrap64 (x13_1 + 1)), (by first | rfl | (simp; done) | (simp [*]; done)), (by first | rfl | (simp; done) | (simp [*]; done)), (by first | rfl | (simp; done) | (simp [*]; done)), H', ⟨by have := HK1.out; omega⟩, by repeat (first | exact Drawn0.refl _ | apply Drawn0.step)⟩
              · replace c7 := Bool.eq_false_iff.mpr c7
                subst c7
                have H1 : (span_least_int.l0 k1 a1 (rd l0 x13_1) true l0 (l0.length : Int) (wrap64 (x13_1 + 1))) = some (r1, r2) := by rw [if_neg (show ¬ (false = true) by decide)] at H; exact H
                clear H
                have H := H1
                clear H1
                have H' := Aside0.mk H
                clear H
                have p210 : 0 ≤ (x13_1 : Int) := of_decide_eq_true (by first | (with_reducible assumption) | assumption)
                have q210 : x13_1 < (l0.length : Int) := of_decide_eq_true (by first | (with_reducible assumption) | assumption)
                obtain ⟨ad210, e210, hx210_0⟩ := Kd.at_int HR0.out x13_1 p210 q210
                cases e210
                replace p210 := eq_true p210
                replace q210 := eq_true q210
                go_wp2
                go_roundg k1
                case measure => have := HK1.out; omega
                case rel => exact ⟨(rd l0 x13_1), (true), (wrap64 (x13_1 + 1)), (by first | rfl | (simp; done) | (simp [*]; done)), (by first | rfl | (simp; done) | (simp [*]; done)), (by first | rfl | (simp; done) | (simp [*]; done)), H', ⟨by have := HK1.out; omega⟩, by repeat (first | exact Drawn0.refl _ | apply Drawn0.step)⟩
            · rw [if_neg c6] at H
              have c6b0 : decide (a1 < (rd l0 x13_1)) = false := decide_eq_false c6
              clear c6
              have H' := Aside0.mk H
              clear H
              have p210 : 0 ≤ (x13_1 : Int) := of_decide_eq_true (by first | (with_reducible assumption) | assumption)
              have q210 : x13_1 < (l0.length : Int) := of_decide_eq_true (by first | (with_reducible assumption) | assumption)
              obtain ⟨ad210, e210, hx210_0⟩ := Kd.at_int HR0.out x13_1 p210 q210
              cases e210
              replace p210 := eq_true p210
              replace q210 := eq_true q210
              go_wp2
              go_roundg k1
              case measure => have := HK1.out; omega
              case rel => exact ⟨(x6_1), (x7_1), (wrap64 (x13_1 + 1)), (by first | rfl | (simp; done) | (simp [*]; done)), (by first | rfl | (simp; done) | (simp [*]; done)), (by first | rfl | (simp; done) | (simp [*]; done)), H', ⟨by have := HK1.out; omega⟩, by repeat (first | exact Drawn0.refl _ | apply Drawn0.step)⟩
          · rw [if_neg c5] at H
            exact absurd H (by simp)
        · rw [if_neg c4] at H
          exact absurd H (by simp)
      · rw [if_neg c3] at H
        have c3b0 : decide (x13_1 < (l0.length : Int)) = false := decide_eq_false c3
        clear c3
        simp only [Option.some.injEq, Prod.mk.injEq] at H
        obtain ⟨rfl, rfl⟩ := H
        go_wp2
        go_ret2
        exact ⟨by first | rfl | (simp; done) | (simp [*]; done), by repeat (first | exact Drawn0.refl _ | apply Drawn0.step)⟩

end Go.Proofs.Ytbpihhggeakhoaa.PTwo
