-- Written by wip/tools/fprint.py: the kit's print.py, run with functions of this session's own put in. Not trusted: Lean checks it.
import Derived.Test.YtbpihhggeakhoaaPTwox0
import Derived.Test.YtbpihhggeakhoaaPTwox4
import Derived.Test.YtbpihhggeakhoaaPTwox5
import Derived.Test.YtbpihhggeakhoaaPTwox6
namespace Go.Proofs.Ytbpihhggeakhoaa.PTwo
open Go.RowKit Go.Proofs.YtbpihhggeakhoaaW.PrintWords Go.Proofs.YtbpihhggeakhoaaW.PrintLast Go.Proofs.YtbpihhggeakhoaaW.PrintMore
attribute [local go_sem] max2_int min2_int max_two min_two max_three min_three max_four min_four   -- for this text's walks alone
set_option linter.unusedVariables false
set_option linter.unusedSimpArgs false

/-! ### typecaselaw18_SpanClimbs: function 6 -/
mutual
def typecaselaw18_SpanClimbs.j0 : Nat → List Int → Bool → Int → Int → Int → ByteArray → Int → Int → Int → Int → Int → ByteArray → Int → List (S86) → Int → Bool → Bool → Option (Bool)
  | 0, _, _, _, _, _, _, _, _, _, _, _, _, _, _, _, _, _ => none
  | k + 1, x3, x22, x289000, x289001, x289002, x289003, x289004, x289005, x289006, x289007, x289008, x289009, x289010, x289011, x289012, x289013, x289014 => if x22 = true then (some false) else ((span_Next.f k x289000 x289001 x289002 x289003 x289004 x289005 x289006 x289007 x289008 x289009 x289010 x289011 x289012 x289013 x289014 (-1)).bind fun bt293 => (typecaselaw18_SpanClimbs.l0 k x3 bt293.1 bt293.2 0 x289000 x289001 x289002 x289003 x289004 x289005 x289006 x289007 x289008 x289009 x289010 x289011 x289012 x289013 x289014))
def typecaselaw18_SpanClimbs.l0 : Nat → List Int → Int → Bool → Int → Int → Int → Int → ByteArray → Int → Int → Int → Int → Int → ByteArray → Int → List (S86) → Int → Bool → Bool → Option (Bool)
  | 0, _, _, _, _, _, _, _, _, _, _, _, _, _, _, _, _, _, _, _ => none
  | k + 1, x3, x4, x5, x6, x289000, x289001, x289002, x289003, x289004, x289005, x289006, x289007, x289008, x289009, x289010, x289011, x289012, x289013, x289014 => if x6 < (x3.length : Int) then (if x5 = true then (if 0 ≤ x6 then (if x4 = (rd x3 x6) then (if x6 > 0 then (if 0 ≤ (wrap64 (x6 - 1)) then (if (wrap64 (x6 - 1)) < (x3.length : Int) then (if (rd x3 x6) ≤ (rd x3 (wrap64 (x6 - 1))) then (some false) else ((span_Next.f k x289000 x289001 x289002 x289003 x289004 x289005 x289006 x289007 x289008 x289009 x289010 x289011 x289012 x289013 x289014 x4).bind fun bt298 => (typecaselaw18_SpanClimbs.l0 k x3 bt298.1 bt298.2 (wrap64 (x6 + 1)) x289000 x289001 x289002 x289003 x289004 x289005 x289006 x289007 x289008 x289009 x289010 x289011 x289012 x289013 x289014))) else (none)) else (none)) else ((span_Next.f k x289000 x289001 x289002 x289003 x289004 x289005 x289006 x289007 x289008 x289009 x289010 x289011 x289012 x289013 x289014 x4).bind fun bt300 => (typecaselaw18_SpanClimbs.l0 k x3 bt300.1 bt300.2 (wrap64 (x6 + 1)) x289000 x289001 x289002 x289003 x289004 x289005 x289006 x289007 x289008 x289009 x289010 x289011 x289012 x289013 x289014))) else (some false)) else (none)) else (some false)) else (if x5 = true then (some false) else (if 0 ≤ (wrap64 ((x3.length : Int) - 1)) then (if (wrap64 ((x3.length : Int) - 1)) < (x3.length : Int) then (some (x4 == (rd x3 (wrap64 ((x3.length : Int) - 1))))) else (none)) else (none)))
end
def typecaselaw18_SpanClimbs.f (k : Nat) (a0_0 : Int) (a0_1 : Int) (a0_2 : Int) (a0_3 : ByteArray) (a0_4 : Int) (a0_5 : Int) (a0_6 : Int) (a0_7 : Int) (a0_8 : Int) (a0_9 : ByteArray) (a0_10 : Int) (l0_11 : List (S86)) (a0_12 : Int) (a0_13 : Bool) (a0_14 : Bool) : Option (Bool) := (typecaselaw18_awake.f k).bind fun t289 => (if t289 = true then (if (a0_3.size : Int) > 1000 then (some true) else ((span_Classes.f k a0_0 a0_1 a0_2 a0_3 a0_4 a0_5 a0_6 a0_7 a0_8 a0_9 a0_10 l0_11 a0_12 a0_13 a0_14).bind fun t290 => (if (t290.length : Int) < 1 then (typecaselaw18_SpanClimbs.j0 k t290 true a0_0 a0_1 a0_2 a0_3 a0_4 a0_5 a0_6 a0_7 a0_8 a0_9 a0_10 l0_11 a0_12 a0_13 a0_14) else (typecaselaw18_SpanClimbs.j0 k t290 (decide ((t290.length : Int) > 3)) a0_0 a0_1 a0_2 a0_3 a0_4 a0_5 a0_6 a0_7 a0_8 a0_9 a0_10 l0_11 a0_12 a0_13 a0_14)))) else (some false))
theorem typecaselaw18_SpanClimbs.mono_l : ∀ k, (∀ y0 y1 y2 y3 y4 y5 y6 y7 y8 y9 y10 y11 y12 y13 y14 y15 y16, LeO (typecaselaw18_SpanClimbs.j0 k y0 y1 y2 y3 y4 y5 y6 y7 y8 y9 y10 y11 y12 y13 y14 y15 y16) (typecaselaw18_SpanClimbs.j0 (k + 1) y0 y1 y2 y3 y4 y5 y6 y7 y8 y9 y10 y11 y12 y13 y14 y15 y16)) ∧ (∀ y0 y1 y2 y3 y4 y5 y6 y7 y8 y9 y10 y11 y12 y13 y14 y15 y16 y17 y18, LeO (typecaselaw18_SpanClimbs.l0 k y0 y1 y2 y3 y4 y5 y6 y7 y8 y9 y10 y11 y12 y13 y14 y15 y16 y17 y18) (typecaselaw18_SpanClimbs.l0 (k + 1) y0 y1 y2 y3 y4 y5 y6 y7 y8 y9 y10 y11 y12 y13 y14 y15 y16 y17 y18))
  | 0 => ⟨fun _ _ _ _ _ _ _ _ _ _ _ _ _ _ _ _ _ r h => by simp [typecaselaw18_SpanClimbs.j0] at h, fun _ _ _ _ _ _ _ _ _ _ _ _ _ _ _ _ _ _ _ r h => by simp [typecaselaw18_SpanClimbs.l0] at h⟩
  | k + 1 => by
    obtain ⟨ih0, ih1⟩ := typecaselaw18_SpanClimbs.mono_l k
    refine ⟨?_, ?_⟩
    · intro y0 y1 y2 y3 y4 y5 y6 y7 y8 y9 y10 y11 y12 y13 y14 y15 y16
      unfold typecaselaw18_SpanClimbs.j0
      repeat' first
      | (with_reducible exact ih0 _ _ _ _ _ _ _ _ _ _ _ _ _ _ _ _ _)
      | (with_reducible exact ih1 _ _ _ _ _ _ _ _ _ _ _ _ _ _ _ _ _ _ _)
      | (with_reducible exact span_Classes.mono _ _ _ _ _ _ _ _ _ _ _ _ _ _ _ _)
      | (with_reducible exact span_Next.mono _ _ _ _ _ _ _ _ _ _ _ _ _ _ _ _ _)
      | (with_reducible exact typecaselaw18_awake.mono _)
      | (with_reducible exact LeO.refl _)
      | (with_reducible exact LeO.none _)
      | (with_reducible refine LeO.ite ?_ ?_)
      | (with_reducible refine LeO.bind ?_ (fun _ => ?_))
      | exact ih0 _ _ _ _ _ _ _ _ _ _ _ _ _ _ _ _ _
      | exact ih1 _ _ _ _ _ _ _ _ _ _ _ _ _ _ _ _ _ _ _
      | exact span_Classes.mono _ _ _ _ _ _ _ _ _ _ _ _ _ _ _ _
      | exact span_Next.mono _ _ _ _ _ _ _ _ _ _ _ _ _ _ _ _ _
      | exact typecaselaw18_awake.mono _
      | exact LeO.none _
      | refine LeO.ite ?_ ?_
      | refine LeO.bind ?_ (fun _ => ?_)
    · intro y0 y1 y2 y3 y4 y5 y6 y7 y8 y9 y10 y11 y12 y13 y14 y15 y16 y17 y18
      unfold typecaselaw18_SpanClimbs.l0
      repeat' first
      | (with_reducible exact ih0 _ _ _ _ _ _ _ _ _ _ _ _ _ _ _ _ _)
      | (with_reducible exact ih1 _ _ _ _ _ _ _ _ _ _ _ _ _ _ _ _ _ _ _)
      | (with_reducible exact span_Classes.mono _ _ _ _ _ _ _ _ _ _ _ _ _ _ _ _)
      | (with_reducible exact span_Next.mono _ _ _ _ _ _ _ _ _ _ _ _ _ _ _ _ _)
      | (with_reducible exact typecaselaw18_awake.mono _)
      | (with_reducible exact LeO.refl _)
      | (with_reducible exact LeO.none _)
      | (with_reducible refine LeO.ite ?_ ?_)
      | (with_reducible refine LeO.bind ?_ (fun _ => ?_))
      | exact ih0 _ _ _ _ _ _ _ _ _ _ _ _ _ _ _ _ _
      | exact ih1 _ _ _ _ _ _ _ _ _ _ _ _ _ _ _ _ _ _ _
      | exact span_Classes.mono _ _ _ _ _ _ _ _ _ _ _ _ _ _ _ _
      | exact span_Next.mono _ _ _ _ _ _ _ _ _ _ _ _ _ _ _ _ _
      | exact typecaselaw18_awake.mono _
      | exact LeO.none _
      | refine LeO.ite ?_ ?_
      | refine LeO.bind ?_ (fun _ => ?_)
theorem typecaselaw18_SpanClimbs.mono : ∀ a0 a1 a2 a3 a4 a5 a6 a7 a8 a9 a10 a11 a12 a13 a14 k, LeO (typecaselaw18_SpanClimbs.f k a0 a1 a2 a3 a4 a5 a6 a7 a8 a9 a10 a11 a12 a13 a14) (typecaselaw18_SpanClimbs.f (k + 1) a0 a1 a2 a3 a4 a5 a6 a7 a8 a9 a10 a11 a12 a13 a14) := by
  intro a0 a1 a2 a3 a4 a5 a6 a7 a8 a9 a10 a11 a12 a13 a14 k
  obtain ⟨ih0, ih1⟩ := typecaselaw18_SpanClimbs.mono_l k
  unfold typecaselaw18_SpanClimbs.f
  repeat' first
      | (with_reducible exact ih0 _ _ _ _ _ _ _ _ _ _ _ _ _ _ _ _ _)
      | (with_reducible exact ih1 _ _ _ _ _ _ _ _ _ _ _ _ _ _ _ _ _ _ _)
      | (with_reducible exact span_Classes.mono _ _ _ _ _ _ _ _ _ _ _ _ _ _ _ _)
      | (with_reducible exact span_Next.mono _ _ _ _ _ _ _ _ _ _ _ _ _ _ _ _ _)
      | (with_reducible exact typecaselaw18_awake.mono _)
      | (with_reducible exact LeO.refl _)
      | (with_reducible exact LeO.none _)
      | (with_reducible refine LeO.ite ?_ ?_)
      | (with_reducible refine LeO.bind ?_ (fun _ => ?_))
      | exact ih0 _ _ _ _ _ _ _ _ _ _ _ _ _ _ _ _ _
      | exact ih1 _ _ _ _ _ _ _ _ _ _ _ _ _ _ _ _ _ _ _
      | exact span_Classes.mono _ _ _ _ _ _ _ _ _ _ _ _ _ _ _ _
      | exact span_Next.mono _ _ _ _ _ _ _ _ _ _ _ _ _ _ _ _ _
      | exact typecaselaw18_awake.mono _
      | exact LeO.none _
      | refine LeO.ite ?_ ?_
      | refine LeO.bind ?_ (fun _ => ?_)
set_option maxHeartbeats 8000000 in
set_option maxRecDepth 100000 in
theorem typecaselaw18_SpanClimbs.calls (k : Nat) (a0_0 : Int) (a0_1 : Int) (a0_2 : Int) (a0_3 : ByteArray) (a0_4 : Int) (a0_5 : Int) (a0_6 : Int) (a0_7 : Int) (a0_8 : Int) (a0_9 : ByteArray) (a0_10 : Int) (A0_11 : Option Addr) (c0_11 : Nat) (l0_11 : List (S86)) (a0_12 : Int) (a0_13 : Bool) (a0_14 : Bool) (r : Bool) (w : World) (hr0_11 : Kd.C k86 w A0_11 l0_11.length l0_11) (hc0_11 : l0_11.length ≤ c0_11) (h : typecaselaw18_SpanClimbs.f k a0_0 a0_1 a0_2 a0_3 a0_4 a0_5 a0_6 a0_7 a0_8 a0_9 a0_10 l0_11 a0_12 a0_13 a0_14 = some r) :
    Calls Try.prog 6 #[.agg #[.int .i64 a0_0, .int .i64 a0_1, .int .i64 a0_2, .string a0_3, .int .i64 a0_4, .int .i64 a0_5, .int .i64 a0_6, .int .i64 a0_7, .int .i32 a0_8, .string a0_9, .int .i64 a0_10, .slice A0_11 l0_11.length c0_11, .int .u32 a0_12, .bool a0_13, .bool a0_14]] w fun e w' => e = .returned (.bool r) ∧ Below w.heap.size w w' := by
  have hu27 := Try.underlying27
  have HR0_11 := Aside0.mk hr0_11
  have HC0_11 := Aside0.mk hc0_11
  clear hr0_11 hc0_11
  have HB := Aside0.mk (Below.refl w.heap.size w)
  have H : ((typecaselaw18_awake.f k).bind fun t289 => (if t289 = true then (if (a0_3.size : Int) > 1000 then (some true) else ((span_Classes.f k a0_0 a0_1 a0_2 a0_3 a0_4 a0_5 a0_6 a0_7 a0_8 a0_9 a0_10 l0_11 a0_12 a0_13 a0_14).bind fun t290 => (if (t290.length : Int) < 1 then (typecaselaw18_SpanClimbs.j0 k t290 true a0_0 a0_1 a0_2 a0_3 a0_4 a0_5 a0_6 a0_7 a0_8 a0_9 a0_10 l0_11 a0_12 a0_13 a0_14) else (typecaselaw18_SpanClimbs.j0 k t290 (decide ((t290.length : Int) > 3)) a0_0 a0_1 a0_2 a0_3 a0_4 a0_5 a0_6 a0_7 a0_8 a0_9 a0_10 l0_11 a0_12 a0_13 a0_14)))) else (some false))) = some r := h
  clear h
  replace H := Option.bind_eq_some_iff.mp H
  obtain ⟨t289, A20, H⟩ := H
  replace H : (if t289 = true then (if (a0_3.size : Int) > 1000 then (some true) else ((span_Classes.f k a0_0 a0_1 a0_2 a0_3 a0_4 a0_5 a0_6 a0_7 a0_8 a0_9 a0_10 l0_11 a0_12 a0_13 a0_14).bind fun t290 => (if (t290.length : Int) < 1 then (typecaselaw18_SpanClimbs.j0 k t290 true a0_0 a0_1 a0_2 a0_3 a0_4 a0_5 a0_6 a0_7 a0_8 a0_9 a0_10 l0_11 a0_12 a0_13 a0_14) else (typecaselaw18_SpanClimbs.j0 k t290 (decide ((t290.length : Int) > 3)) a0_0 a0_1 a0_2 a0_3 a0_4 a0_5 a0_6 a0_7 a0_8 a0_9 a0_10 l0_11 a0_12 a0_13 a0_14)))) else (some false)) = some r := H
  have A2 := Aside0.mk A20
  clear A20
  by_cases c3 : t289 = true
  · subst c3
    have H1 : (if (a0_3.size : Int) > 1000 then (some true) else ((span_Classes.f k a0_0 a0_1 a0_2 a0_3 a0_4 a0_5 a0_6 a0_7 a0_8 a0_9 a0_10 l0_11 a0_12 a0_13 a0_14).bind fun t290 => (if (t290.length : Int) < 1 then (typecaselaw18_SpanClimbs.j0 k t290 true a0_0 a0_1 a0_2 a0_3 a0_4 a0_5 a0_6 a0_7 a0_8 a0_9 a0_10 l0_11 a0_12 a0_13 a0_14) else (typecaselaw18_SpanClimbs.j0 k t290 (decide ((t290.length : Int) > 3)) a0_0 a0_1 a0_2 a0_3 a0_4 a0_5 a0_6 a0_7 a0_8 a0_9 a0_10 l0_11 a0_12 a0_13 a0_14)))) = some r := by rw [if_pos rfl] at H; exact H
    clear H
    have H := H1
    clear H1
    by_cases c4 : (a0_3.size : Int) > 1000
    · rw [if_pos c4] at H
      have c4b0 : decide (1000 < (a0_3.size : Int)) = true := decide_eq_true c4
      have c4b1 : decide (1000 < a0_3.size) = true := decide_eq_true (by omega)
      clear c4
      obtain rfl := Option.some.inj H
      go_enter Try.func6, Try.ntmps6
      go_wp2_with (first | ((with_reducible refine gate_dst (N := 1) rfl ?_); (try (refine gate_guard (by rfl) ?_; dsimp only)); refine box_event ?hg (N := 1) ?hd (cs := #[.int .i64 a0_0, .int .i64 a0_1, .int .i64 a0_2, .string a0_3, .int .i64 a0_4, .int .i64 a0_5, .int .i64 a0_6, .int .i64 a0_7, .int .i32 a0_8, .string a0_9, .int .i64 a0_10, .slice A0_11 l0_11.length c0_11, .int .u32 a0_12, .bool a0_13, .bool a0_14]) (t := 27) ?hr ?_; (case hd => rfl); (case hg => rfl); (case hr => first | (go_simp; done) | (go_simp; rfl)); intro gb288 hg w5 hbox hb; have n0_ := Aside0.mk (below_step (by repeat (first | (with_reducible first | exact HB.out | apply below_alloc | apply pw_below_drewN | apply below_drew1) | exact HB.out)) hb); have n1_ := Aside0.mk (hbox); have n2_ := Aside0.mk ((by rw [hg]; exact (below_size (by repeat (first | (with_reducible first | exact HB.out | apply below_alloc | apply pw_below_drewN | apply below_drew1) | exact HB.out))) : w.heap.size ≤ gb288)); have n3_ := Aside0.mk ((by rw [hg]; exact (below_size (by repeat (first | (with_reducible first | exact HB.out | apply below_alloc | apply pw_below_drewN | apply below_drew1) | exact HB.out))) : w.heap.size ≤ gb288)); clear HB; have HB := n0_; have BK288 := n1_; have GW288 := n2_; have GE288 := n3_; clear n0_ n1_ n2_ n3_; clear hb hbox hg) | (go_at_call 7; (with_reducible refine (typecaselaw18_awake.calls k  true _ A2.out).mono ?_); rintro e w6 ⟨rfl, hb⟩; have n0_ := Aside0.mk (blk_below (g := gb288) (o := .cells #[.int .i64 a0_0, .int .i64 a0_1, .int .i64 a0_2, .string a0_3, .int .i64 a0_4, .int .i64 a0_5, .int .i64 a0_6, .int .i64 a0_7, .int .i32 a0_8, .string a0_9, .int .i64 a0_10, .slice A0_11 l0_11.length c0_11, .int .u32 a0_12, .bool a0_13, .bool a0_14] 27 (0, 0)) (by (with_reducible repeat (first | refine blk_drewN ?_ _ | refine blk_drew ?_ | refine blk_alloc ?_ _)); exact BK288.out) hb); have n1_ := Aside0.mk (below_step (by repeat (first | (with_reducible first | exact HB.out | apply below_alloc | apply pw_below_drewN | apply below_drew1 | refine below_set ?_ GE288.out) | exact HB.out)) hb); clear BK288; clear HB; have BK288 := n0_; have HB := n1_; clear n0_ n1_; (try clear hb); (try clear hb2); (try clear hk); (try clear hi); have hcz7_0 : w6.cell? ⟨gb288, 0, none⟩ = some (.int .i64 a0_0) := (blk_cell BK288.out 0).trans rfl; have hcz7_1 : w6.cell? ⟨gb288, 1, none⟩ = some (.int .i64 a0_1) := (blk_cell BK288.out 1).trans rfl; have hcz7_2 : w6.cell? ⟨gb288, 2, none⟩ = some (.int .i64 a0_2) := (blk_cell BK288.out 2).trans rfl; have hcz7_3 : w6.cell? ⟨gb288, 3, none⟩ = some (.string a0_3) := (blk_cell BK288.out 3).trans rfl; have hcz7_4 : w6.cell? ⟨gb288, 4, none⟩ = some (.int .i64 a0_4) := (blk_cell BK288.out 4).trans rfl; have hcz7_5 : w6.cell? ⟨gb288, 5, none⟩ = some (.int .i64 a0_5) := (blk_cell BK288.out 5).trans rfl; have hcz7_6 : w6.cell? ⟨gb288, 6, none⟩ = some (.int .i64 a0_6) := (blk_cell BK288.out 6).trans rfl; have hcz7_7 : w6.cell? ⟨gb288, 7, none⟩ = some (.int .i64 a0_7) := (blk_cell BK288.out 7).trans rfl; have hcz7_8 : w6.cell? ⟨gb288, 8, none⟩ = some (.int .i32 a0_8) := (blk_cell BK288.out 8).trans rfl; have hcz7_9 : w6.cell? ⟨gb288, 9, none⟩ = some (.string a0_9) := (blk_cell BK288.out 9).trans rfl; have hcz7_10 : w6.cell? ⟨gb288, 10, none⟩ = some (.int .i64 a0_10) := (blk_cell BK288.out 10).trans rfl; have hcz7_11 : w6.cell? ⟨gb288, 11, none⟩ = some (.slice A0_11 l0_11.length c0_11) := (blk_cell BK288.out 11).trans rfl; have hcz7_12 : w6.cell? ⟨gb288, 12, none⟩ = some (.int .u32 a0_12) := (blk_cell BK288.out 12).trans rfl; have hcz7_13 : w6.cell? ⟨gb288, 13, none⟩ = some (.bool a0_13) := (blk_cell BK288.out 13).trans rfl; have hcz7_14 : w6.cell? ⟨gb288, 14, none⟩ = some (.bool a0_14) := (blk_cell BK288.out 14).trans rfl; have hfz7_0 := blk_frozen BK288.out 0; have hfz7_1 := blk_frozen BK288.out 1; have hfz7_2 := blk_frozen BK288.out 2; have hfz7_3 := blk_frozen BK288.out 3; have hfz7_4 := blk_frozen BK288.out 4; have hfz7_5 := blk_frozen BK288.out 5; have hfz7_6 := blk_frozen BK288.out 6; have hfz7_7 := blk_frozen BK288.out 7; have hfz7_8 := blk_frozen BK288.out 8; have hfz7_9 := blk_frozen BK288.out 9; have hfz7_10 := blk_frozen BK288.out 10; have hfz7_11 := blk_frozen BK288.out 11; have hfz7_12 := blk_frozen BK288.out 12; have hfz7_13 := blk_frozen BK288.out 13; have hfz7_14 := blk_frozen BK288.out 14))
      repeat (go_quiet (first | ((with_reducible refine gate_dst (N := 1) rfl ?_); (try (refine gate_guard (by rfl) ?_; dsimp only)); refine box_event ?hg (N := 1) ?hd (cs := #[.int .i64 a0_0, .int .i64 a0_1, .int .i64 a0_2, .string a0_3, .int .i64 a0_4, .int .i64 a0_5, .int .i64 a0_6, .int .i64 a0_7, .int .i32 a0_8, .string a0_9, .int .i64 a0_10, .slice A0_11 l0_11.length c0_11, .int .u32 a0_12, .bool a0_13, .bool a0_14]) (t := 27) ?hr ?_; (case hd => rfl); (case hg => rfl); (case hr => first | (go_simp; done) | (go_simp; rfl)); intro gb288 hg w5 hbox hb; have n0_ := Aside0.mk (below_step (by repeat (first | (with_reducible first | exact HB.out | apply below_alloc | apply pw_below_drewN | apply below_drew1) | exact HB.out)) hb); have n1_ := Aside0.mk (hbox); have n2_ := Aside0.mk ((by rw [hg]; exact (below_size (by repeat (first | (with_reducible first | exact HB.out | apply below_alloc | apply pw_below_drewN | apply below_drew1) | exact HB.out))) : w.heap.size ≤ gb288)); have n3_ := Aside0.mk ((by rw [hg]; exact (below_size (by repeat (first | (with_reducible first | exact HB.out | apply below_alloc | apply pw_below_drewN | apply below_drew1) | exact HB.out))) : w.heap.size ≤ gb288)); clear HB; have HB := n0_; have BK288 := n1_; have GW288 := n2_; have GE288 := n3_; clear n0_ n1_ n2_ n3_; clear hb hbox hg) | (go_at_call 7; (with_reducible refine (typecaselaw18_awake.calls k  true _ A2.out).mono ?_); rintro e w6 ⟨rfl, hb⟩; have n0_ := Aside0.mk (blk_below (g := gb288) (o := .cells #[.int .i64 a0_0, .int .i64 a0_1, .int .i64 a0_2, .string a0_3, .int .i64 a0_4, .int .i64 a0_5, .int .i64 a0_6, .int .i64 a0_7, .int .i32 a0_8, .string a0_9, .int .i64 a0_10, .slice A0_11 l0_11.length c0_11, .int .u32 a0_12, .bool a0_13, .bool a0_14] 27 (0, 0)) (by (with_reducible repeat (first | refine blk_drewN ?_ _ | refine blk_drew ?_ | refine blk_alloc ?_ _)); exact BK288.out) hb); have n1_ := Aside0.mk (below_step (by repeat (first | (with_reducible first | exact HB.out | apply below_alloc | apply pw_below_drewN | apply below_drew1 | refine below_set ?_ GE288.out) | exact HB.out)) hb); clear BK288; clear HB; have BK288 := n0_; have HB := n1_; clear n0_ n1_; (try clear hb); (try clear hb2); (try clear hk); (try clear hi); have hcz7_0 : w6.cell? ⟨gb288, 0, none⟩ = some (.int .i64 a0_0) := (blk_cell BK288.out 0).trans rfl; have hcz7_1 : w6.cell? ⟨gb288, 1, none⟩ = some (.int .i64 a0_1) := (blk_cell BK288.out 1).trans rfl; have hcz7_2 : w6.cell? ⟨gb288, 2, none⟩ = some (.int .i64 a0_2) := (blk_cell BK288.out 2).trans rfl; have hcz7_3 : w6.cell? ⟨gb288, 3, none⟩ = some (.string a0_3) := (blk_cell BK288.out 3).trans rfl; have hcz7_4 : w6.cell? ⟨gb288, 4, none⟩ = some (.int .i64 a0_4) := (blk_cell BK288.out 4).trans rfl; have hcz7_5 : w6.cell? ⟨gb288, 5, none⟩ = some (.int .i64 a0_5) := (blk_cell BK288.out 5).trans rfl; have hcz7_6 : w6.cell? ⟨gb288, 6, none⟩ = some (.int .i64 a0_6) := (blk_cell BK288.out 6).trans rfl; have hcz7_7 : w6.cell? ⟨gb288, 7, none⟩ = some (.int .i64 a0_7) := (blk_cell BK288.out 7).trans rfl; have hcz7_8 : w6.cell? ⟨gb288, 8, none⟩ = some (.int .i32 a0_8) := (blk_cell BK288.out 8).trans rfl; have hcz7_9 : w6.cell? ⟨gb288, 9, none⟩ = some (.string a0_9) := (blk_cell BK288.out 9).trans rfl; have hcz7_10 : w6.cell? ⟨gb288, 10, none⟩ = some (.int .i64 a0_10) := (blk_cell BK288.out 10).trans rfl; have hcz7_11 : w6.cell? ⟨gb288, 11, none⟩ = some (.slice A0_11 l0_11.length c0_11) := (blk_cell BK288.out 11).trans rfl; have hcz7_12 : w6.cell? ⟨gb288, 12, none⟩ = some (.int .u32 a0_12) := (blk_cell BK288.out 12).trans rfl; have hcz7_13 : w6.cell? ⟨gb288, 13, none⟩ = some (.bool a0_13) := (blk_cell BK288.out 13).trans rfl; have hcz7_14 : w6.cell? ⟨gb288, 14, none⟩ = some (.bool a0_14) := (blk_cell BK288.out 14).trans rfl; have hfz7_0 := blk_frozen BK288.out 0; have hfz7_1 := blk_frozen BK288.out 1; have hfz7_2 := blk_frozen BK288.out 2; have hfz7_3 := blk_frozen BK288.out 3; have hfz7_4 := blk_frozen BK288.out 4; have hfz7_5 := blk_frozen BK288.out 5; have hfz7_6 := blk_frozen BK288.out 6; have hfz7_7 := blk_frozen BK288.out 7; have hfz7_8 := blk_frozen BK288.out 8; have hfz7_9 := blk_frozen BK288.out 9; have hfz7_10 := blk_frozen BK288.out 10; have hfz7_11 := blk_frozen BK288.out 11; have hfz7_12 := blk_frozen BK288.out 12; have hfz7_13 := blk_frozen BK288.out 13; have hfz7_14 := blk_frozen BK288.out 14)); try go_wp2_with (first | ((with_reducible refine gate_dst (N := 1) rfl ?_); (try (refine gate_guard (by rfl) ?_; dsimp only)); refine box_event ?hg (N := 1) ?hd (cs := #[.int .i64 a0_0, .int .i64 a0_1, .int .i64 a0_2, .string a0_3, .int .i64 a0_4, .int .i64 a0_5, .int .i64 a0_6, .int .i64 a0_7, .int .i32 a0_8, .string a0_9, .int .i64 a0_10, .slice A0_11 l0_11.length c0_11, .int .u32 a0_12, .bool a0_13, .bool a0_14]) (t := 27) ?hr ?_; (case hd => rfl); (case hg => rfl); (case hr => first | (go_simp; done) | (go_simp; rfl)); intro gb288 hg w5 hbox hb; have n0_ := Aside0.mk (below_step (by repeat (first | (with_reducible first | exact HB.out | apply below_alloc | apply pw_below_drewN | apply below_drew1) | exact HB.out)) hb); have n1_ := Aside0.mk (hbox); have n2_ := Aside0.mk ((by rw [hg]; exact (below_size (by repeat (first | (with_reducible first | exact HB.out | apply below_alloc | apply pw_below_drewN | apply below_drew1) | exact HB.out))) : w.heap.size ≤ gb288)); have n3_ := Aside0.mk ((by rw [hg]; exact (below_size (by repeat (first | (with_reducible first | exact HB.out | apply below_alloc | apply pw_below_drewN | apply below_drew1) | exact HB.out))) : w.heap.size ≤ gb288)); clear HB; have HB := n0_; have BK288 := n1_; have GW288 := n2_; have GE288 := n3_; clear n0_ n1_ n2_ n3_; clear hb hbox hg) | (go_at_call 7; (with_reducible refine (typecaselaw18_awake.calls k  true _ A2.out).mono ?_); rintro e w6 ⟨rfl, hb⟩; have n0_ := Aside0.mk (blk_below (g := gb288) (o := .cells #[.int .i64 a0_0, .int .i64 a0_1, .int .i64 a0_2, .string a0_3, .int .i64 a0_4, .int .i64 a0_5, .int .i64 a0_6, .int .i64 a0_7, .int .i32 a0_8, .string a0_9, .int .i64 a0_10, .slice A0_11 l0_11.length c0_11, .int .u32 a0_12, .bool a0_13, .bool a0_14] 27 (0, 0)) (by (with_reducible repeat (first | refine blk_drewN ?_ _ | refine blk_drew ?_ | refine blk_alloc ?_ _)); exact BK288.out) hb); have n1_ := Aside0.mk (below_step (by repeat (first | (with_reducible first | exact HB.out | apply below_alloc | apply pw_below_drewN | apply below_drew1 | refine below_set ?_ GE288.out) | exact HB.out)) hb); clear BK288; clear HB; have BK288 := n0_; have HB := n1_; clear n0_ n1_; (try clear hb); (try clear hb2); (try clear hk); (try clear hi); have hcz7_0 : w6.cell? ⟨gb288, 0, none⟩ = some (.int .i64 a0_0) := (blk_cell BK288.out 0).trans rfl; have hcz7_1 : w6.cell? ⟨gb288, 1, none⟩ = some (.int .i64 a0_1) := (blk_cell BK288.out 1).trans rfl; have hcz7_2 : w6.cell? ⟨gb288, 2, none⟩ = some (.int .i64 a0_2) := (blk_cell BK288.out 2).trans rfl; have hcz7_3 : w6.cell? ⟨gb288, 3, none⟩ = some (.string a0_3) := (blk_cell BK288.out 3).trans rfl; have hcz7_4 : w6.cell? ⟨gb288, 4, none⟩ = some (.int .i64 a0_4) := (blk_cell BK288.out 4).trans rfl; have hcz7_5 : w6.cell? ⟨gb288, 5, none⟩ = some (.int .i64 a0_5) := (blk_cell BK288.out 5).trans rfl; have hcz7_6 : w6.cell? ⟨gb288, 6, none⟩ = some (.int .i64 a0_6) := (blk_cell BK288.out 6).trans rfl; have hcz7_7 : w6.cell? ⟨gb288, 7, none⟩ = some (.int .i64 a0_7) := (blk_cell BK288.out 7).trans rfl; have hcz7_8 : w6.cell? ⟨gb288, 8, none⟩ = some (.int .i32 a0_8) := (blk_cell BK288.out 8).trans rfl; have hcz7_9 : w6.cell? ⟨gb288, 9, none⟩ = some (.string a0_9) := (blk_cell BK288.out 9).trans rfl; have hcz7_10 : w6.cell? ⟨gb288, 10, none⟩ = some (.int .i64 a0_10) := (blk_cell BK288.out 10).trans rfl; have hcz7_11 : w6.cell? ⟨gb288, 11, none⟩ = some (.slice A0_11 l0_11.length c0_11) := (blk_cell BK288.out 11).trans rfl; have hcz7_12 : w6.cell? ⟨gb288, 12, none⟩ = some (.int .u32 a0_12) := (blk_cell BK288.out 12).trans rfl; have hcz7_13 : w6.cell? ⟨gb288, 13, none⟩ = some (.bool a0_13) := (blk_cell BK288.out 13).trans rfl; have hcz7_14 : w6.cell? ⟨gb288, 14, none⟩ = some (.bool a0_14) := (blk_cell BK288.out 14).trans rfl; have hfz7_0 := blk_frozen BK288.out 0; have hfz7_1 := blk_frozen BK288.out 1; have hfz7_2 := blk_frozen BK288.out 2; have hfz7_3 := blk_frozen BK288.out 3; have hfz7_4 := blk_frozen BK288.out 4; have hfz7_5 := blk_frozen BK288.out 5; have hfz7_6 := blk_frozen BK288.out 6; have hfz7_7 := blk_frozen BK288.out 7; have hfz7_8 := blk_frozen BK288.out 8; have hfz7_9 := blk_frozen BK288.out 9; have hfz7_10 := blk_frozen BK288.out 10; have hfz7_11 := blk_frozen BK288.out 11; have hfz7_12 := blk_frozen BK288.out 12; have hfz7_13 := blk_frozen BK288.out 13; have hfz7_14 := blk_frozen BK288.out 14)))
      go_ret
      exact ⟨by first | rfl | (simp [errW_none, errW_some] <;> rfl) | (simp [*, errW_none, errW_some] <;> rfl), by repeat (first | (with_reducible first | exact HB.out | apply below_alloc | apply pw_below_drewN | apply below_drew1 | refine below_set ?_ GE288.out) | exact HB.out)⟩
    · rw [if_neg c4] at H
      have c4b0 : decide (1000 < (a0_3.size : Int)) = false := decide_eq_false c4
      have c4b1 : decide (1000 < a0_3.size) = false := decide_eq_false (by omega)
      clear c4
      replace H := Option.bind_eq_some_iff.mp H
      obtain ⟨t290, A80, H⟩ := H
      replace H : (if (t290.length : Int) < 1 then (typecaselaw18_SpanClimbs.j0 k t290 true a0_0 a0_1 a0_2 a0_3 a0_4 a0_5 a0_6 a0_7 a0_8 a0_9 a0_10 l0_11 a0_12 a0_13 a0_14) else (typecaselaw18_SpanClimbs.j0 k t290 (decide ((t290.length : Int) > 3)) a0_0 a0_1 a0_2 a0_3 a0_4 a0_5 a0_6 a0_7 a0_8 a0_9 a0_10 l0_11 a0_12 a0_13 a0_14)) = some r := H
      have A8 := Aside0.mk A80
      clear A80
      have HC9 := Aside0.mk H
      clear H
      go_enter Try.func6, Try.ntmps6
      go_upto_region 6 with (first | ((with_reducible refine gate_dst (N := 1) rfl ?_); (try (refine gate_guard (by rfl) ?_; dsimp only)); refine box_event ?hg (N := 1) ?hd (cs := #[.int .i64 a0_0, .int .i64 a0_1, .int .i64 a0_2, .string a0_3, .int .i64 a0_4, .int .i64 a0_5, .int .i64 a0_6, .int .i64 a0_7, .int .i32 a0_8, .string a0_9, .int .i64 a0_10, .slice A0_11 l0_11.length c0_11, .int .u32 a0_12, .bool a0_13, .bool a0_14]) (t := 27) ?hr ?_; (case hd => rfl); (case hg => rfl); (case hr => first | (go_simp; done) | (go_simp; rfl)); intro gb288 hg w10 hbox hb; have n0_ := Aside0.mk (below_step (by repeat (first | (with_reducible first | exact HB.out | apply below_alloc | apply pw_below_drewN | apply below_drew1) | exact HB.out)) hb); have n1_ := Aside0.mk (hbox); have n2_ := Aside0.mk ((by rw [hg]; exact (below_size (by repeat (first | (with_reducible first | exact HB.out | apply below_alloc | apply pw_below_drewN | apply below_drew1) | exact HB.out))) : w.heap.size ≤ gb288)); have n3_ := Aside0.mk ((by rw [hg]; exact (below_size (by repeat (first | (with_reducible first | exact HB.out | apply below_alloc | apply pw_below_drewN | apply below_drew1) | exact HB.out))) : w.heap.size ≤ gb288)); clear HB; have HB := n0_; have BK288 := n1_; have GW288 := n2_; have GE288 := n3_; clear n0_ n1_ n2_ n3_; clear hb hbox hg) | (go_at_call 7; (with_reducible refine (typecaselaw18_awake.calls k  true _ A2.out).mono ?_); rintro e w11 ⟨rfl, hb⟩; have n0_ := Aside0.mk (blk_below (g := gb288) (o := .cells #[.int .i64 a0_0, .int .i64 a0_1, .int .i64 a0_2, .string a0_3, .int .i64 a0_4, .int .i64 a0_5, .int .i64 a0_6, .int .i64 a0_7, .int .i32 a0_8, .string a0_9, .int .i64 a0_10, .slice A0_11 l0_11.length c0_11, .int .u32 a0_12, .bool a0_13, .bool a0_14] 27 (0, 0)) (by (with_reducible repeat (first | refine blk_drewN ?_ _ | refine blk_drew ?_ | refine blk_alloc ?_ _)); exact BK288.out) hb); have n1_ := Aside0.mk (below_step (by repeat (first | (with_reducible first | exact HB.out | apply below_alloc | apply pw_below_drewN | apply below_drew1 | refine below_set ?_ GE288.out) | exact HB.out)) hb); clear BK288; clear HB; have BK288 := n0_; have HB := n1_; clear n0_ n1_; (try clear hb); (try clear hb2); (try clear hk); (try clear hi); have hcz12_0 : w11.cell? ⟨gb288, 0, none⟩ = some (.int .i64 a0_0) := (blk_cell BK288.out 0).trans rfl; have hcz12_1 : w11.cell? ⟨gb288, 1, none⟩ = some (.int .i64 a0_1) := (blk_cell BK288.out 1).trans rfl; have hcz12_2 : w11.cell? ⟨gb288, 2, none⟩ = some (.int .i64 a0_2) := (blk_cell BK288.out 2).trans rfl; have hcz12_3 : w11.cell? ⟨gb288, 3, none⟩ = some (.string a0_3) := (blk_cell BK288.out 3).trans rfl; have hcz12_4 : w11.cell? ⟨gb288, 4, none⟩ = some (.int .i64 a0_4) := (blk_cell BK288.out 4).trans rfl; have hcz12_5 : w11.cell? ⟨gb288, 5, none⟩ = some (.int .i64 a0_5) := (blk_cell BK288.out 5).trans rfl; have hcz12_6 : w11.cell? ⟨gb288, 6, none⟩ = some (.int .i64 a0_6) := (blk_cell BK288.out 6).trans rfl; have hcz12_7 : w11.cell? ⟨gb288, 7, none⟩ = some (.int .i64 a0_7) := (blk_cell BK288.out 7).trans rfl; have hcz12_8 : w11.cell? ⟨gb288, 8, none⟩ = some (.int .i32 a0_8) := (blk_cell BK288.out 8).trans rfl; have hcz12_9 : w11.cell? ⟨gb288, 9, none⟩ = some (.string a0_9) := (blk_cell BK288.out 9).trans rfl; have hcz12_10 : w11.cell? ⟨gb288, 10, none⟩ = some (.int .i64 a0_10) := (blk_cell BK288.out 10).trans rfl; have hcz12_11 : w11.cell? ⟨gb288, 11, none⟩ = some (.slice A0_11 l0_11.length c0_11) := (blk_cell BK288.out 11).trans rfl; have hcz12_12 : w11.cell? ⟨gb288, 12, none⟩ = some (.int .u32 a0_12) := (blk_cell BK288.out 12).trans rfl; have hcz12_13 : w11.cell? ⟨gb288, 13, none⟩ = some (.bool a0_13) := (blk_cell BK288.out 13).trans rfl; have hcz12_14 : w11.cell? ⟨gb288, 14, none⟩ = some (.bool a0_14) := (blk_cell BK288.out 14).trans rfl; have hfz12_0 := blk_frozen BK288.out 0; have hfz12_1 := blk_frozen BK288.out 1; have hfz12_2 := blk_frozen BK288.out 2; have hfz12_3 := blk_frozen BK288.out 3; have hfz12_4 := blk_frozen BK288.out 4; have hfz12_5 := blk_frozen BK288.out 5; have hfz12_6 := blk_frozen BK288.out 6; have hfz12_7 := blk_frozen BK288.out 7; have hfz12_8 := blk_frozen BK288.out 8; have hfz12_9 := blk_frozen BK288.out 9; have hfz12_10 := blk_frozen BK288.out 10; have hfz12_11 := blk_frozen BK288.out 11; have hfz12_12 := blk_frozen BK288.out 12; have hfz12_13 := blk_frozen BK288.out 13; have hfz12_14 := blk_frozen BK288.out 14) | (go_at_call 13; (with_reducible refine (span_Classes.calls k a0_0 a0_1 a0_2 a0_3 a0_4 a0_5 a0_6 a0_7 a0_8 a0_9 a0_10 _ _ l0_11 a0_12 a0_13 a0_14 t290 _ ?side1 ?side2 A8.out).mono ?_); (case side1 => repeat (first | exact (Kd.C_below HR0_11.out HB.out) | (with_reducible refine Kd.C_alloc ?_ _) | (with_reducible refine Kd.C_drewN ?_ _) | (with_reducible refine Kd.C_drew ?_))); (case side2 => exact HC0_11.out); rintro e w13 ⟨v291, rfl, ho0, hb⟩; have n0_ := Aside0.mk (Kd.R_lower ho0 (below_size (by repeat (first | (with_reducible first | exact HB.out | apply below_alloc | apply pw_below_drewN | apply below_drew1 | refine below_set ?_ GE288.out) | exact HB.out)))); have n1_ := Aside0.mk (blk_below (g := gb288) (o := .cells #[.int .i64 a0_0, .int .i64 a0_1, .int .i64 a0_2, .string a0_3, .int .i64 a0_4, .int .i64 a0_5, .int .i64 a0_6, .int .i64 a0_7, .int .i32 a0_8, .string a0_9, .int .i64 a0_10, .slice A0_11 l0_11.length c0_11, .int .u32 a0_12, .bool a0_13, .bool a0_14] 27 (0, 0)) (by (with_reducible repeat (first | refine blk_drewN ?_ _ | refine blk_drew ?_ | refine blk_alloc ?_ _)); exact BK288.out) hb); have n2_ := Aside0.mk (below_step (by repeat (first | (with_reducible first | exact HB.out | apply below_alloc | apply pw_below_drewN | apply below_drew1 | refine below_set ?_ GE288.out) | exact HB.out)) hb); clear BK288; clear HB; have HO292 := n0_; have BK288 := n1_; have HB := n2_; clear n0_ n1_ n2_; (try clear hb); (try clear hb2); (try clear hk); (try clear hi); (try clear ho0)))
      repeat (go_quiet (first | ((with_reducible refine gate_dst (N := 1) rfl ?_); (try (refine gate_guard (by rfl) ?_; dsimp only)); refine box_event ?hg (N := 1) ?hd (cs := #[.int .i64 a0_0, .int .i64 a0_1, .int .i64 a0_2, .string a0_3, .int .i64 a0_4, .int .i64 a0_5, .int .i64 a0_6, .int .i64 a0_7, .int .i32 a0_8, .string a0_9, .int .i64 a0_10, .slice A0_11 l0_11.length c0_11, .int .u32 a0_12, .bool a0_13, .bool a0_14]) (t := 27) ?hr ?_; (case hd => rfl); (case hg => rfl); (case hr => first | (go_simp; done) | (go_simp; rfl)); intro gb288 hg w10 hbox hb; have n0_ := Aside0.mk (below_step (by repeat (first | (with_reducible first | exact HB.out | apply below_alloc | apply pw_below_drewN | apply below_drew1) | exact HB.out)) hb); have n1_ := Aside0.mk (hbox); have n2_ := Aside0.mk ((by rw [hg]; exact (below_size (by repeat (first | (with_reducible first | exact HB.out | apply below_alloc | apply pw_below_drewN | apply below_drew1) | exact HB.out))) : w.heap.size ≤ gb288)); have n3_ := Aside0.mk ((by rw [hg]; exact (below_size (by repeat (first | (with_reducible first | exact HB.out | apply below_alloc | apply pw_below_drewN | apply below_drew1) | exact HB.out))) : w.heap.size ≤ gb288)); clear HB; have HB := n0_; have BK288 := n1_; have GW288 := n2_; have GE288 := n3_; clear n0_ n1_ n2_ n3_; clear hb hbox hg) | (go_at_call 7; (with_reducible refine (typecaselaw18_awake.calls k  true _ A2.out).mono ?_); rintro e w11 ⟨rfl, hb⟩; have n0_ := Aside0.mk (blk_below (g := gb288) (o := .cells #[.int .i64 a0_0, .int .i64 a0_1, .int .i64 a0_2, .string a0_3, .int .i64 a0_4, .int .i64 a0_5, .int .i64 a0_6, .int .i64 a0_7, .int .i32 a0_8, .string a0_9, .int .i64 a0_10, .slice A0_11 l0_11.length c0_11, .int .u32 a0_12, .bool a0_13, .bool a0_14] 27 (0, 0)) (by (with_reducible repeat (first | refine blk_drewN ?_ _ | refine blk_drew ?_ | refine blk_alloc ?_ _)); exact BK288.out) hb); have n1_ := Aside0.mk (below_step (by repeat (first | (with_reducible first | exact HB.out | apply below_alloc | apply pw_below_drewN | apply below_drew1 | refine below_set ?_ GE288.out) | exact HB.out)) hb); clear BK288; clear HB; have BK288 := n0_; have HB := n1_; clear n0_ n1_; (try clear hb); (try clear hb2); (try clear hk); (try clear hi); have hcz12_0 : w11.cell? ⟨gb288, 0, none⟩ = some (.int .i64 a0_0) := (blk_cell BK288.out 0).trans rfl; have hcz12_1 : w11.cell? ⟨gb288, 1, none⟩ = some (.int .i64 a0_1) := (blk_cell BK288.out 1).trans rfl; have hcz12_2 : w11.cell? ⟨gb288, 2, none⟩ = some (.int .i64 a0_2) := (blk_cell BK288.out 2).trans rfl; have hcz12_3 : w11.cell? ⟨gb288, 3, none⟩ = some (.string a0_3) := (blk_cell BK288.out 3).trans rfl; have hcz12_4 : w11.cell? ⟨gb288, 4, none⟩ = some (.int .i64 a0_4) := (blk_cell BK288.out 4).trans rfl; have hcz12_5 : w11.cell? ⟨gb288, 5, none⟩ = some (.int .i64 a0_5) := (blk_cell BK288.out 5).trans rfl; have hcz12_6 : w11.cell? ⟨gb288, 6, none⟩ = some (.int .i64 a0_6) := (blk_cell BK288.out 6).trans rfl; have hcz12_7 : w11.cell? ⟨gb288, 7, none⟩ = some (.int .i64 a0_7) := (blk_cell BK288.out 7).trans rfl; have hcz12_8 : w11.cell? ⟨gb288, 8, none⟩ = some (.int .i32 a0_8) := (blk_cell BK288.out 8).trans rfl; have hcz12_9 : w11.cell? ⟨gb288, 9, none⟩ = some (.string a0_9) := (blk_cell BK288.out 9).trans rfl; have hcz12_10 : w11.cell? ⟨gb288, 10, none⟩ = some (.int .i64 a0_10) := (blk_cell BK288.out 10).trans rfl; have hcz12_11 : w11.cell? ⟨gb288, 11, none⟩ = some (.slice A0_11 l0_11.length c0_11) := (blk_cell BK288.out 11).trans rfl; have hcz12_12 : w11.cell? ⟨gb288, 12, none⟩ = some (.int .u32 a0_12) := (blk_cell BK288.out 12).trans rfl; have hcz12_13 : w11.cell? ⟨gb288, 13, none⟩ = some (.bool a0_13) := (blk_cell BK288.out 13).trans rfl; have hcz12_14 : w11.cell? ⟨gb288, 14, none⟩ = some (.bool a0_14) := (blk_cell BK288.out 14).trans rfl; have hfz12_0 := blk_frozen BK288.out 0; have hfz12_1 := blk_frozen BK288.out 1; have hfz12_2 := blk_frozen BK288.out 2; have hfz12_3 := blk_frozen BK288.out 3; have hfz12_4 := blk_frozen BK288.out 4; have hfz12_5 := blk_frozen BK288.out 5; have hfz12_6 := blk_frozen BK288.out 6; have hfz12_7 := blk_frozen BK288.out 7; have hfz12_8 := blk_frozen BK288.out 8; have hfz12_9 := blk_frozen BK288.out 9; have hfz12_10 := blk_frozen BK288.out 10; have hfz12_11 := blk_frozen BK288.out 11; have hfz12_12 := blk_frozen BK288.out 12; have hfz12_13 := blk_frozen BK288.out 13; have hfz12_14 := blk_frozen BK288.out 14) | (go_at_call 13; (with_reducible refine (span_Classes.calls k a0_0 a0_1 a0_2 a0_3 a0_4 a0_5 a0_6 a0_7 a0_8 a0_9 a0_10 _ _ l0_11 a0_12 a0_13 a0_14 t290 _ ?side1 ?side2 A8.out).mono ?_); (case side1 => repeat (first | exact (Kd.C_below HR0_11.out HB.out) | (with_reducible refine Kd.C_alloc ?_ _) | (with_reducible refine Kd.C_drewN ?_ _) | (with_reducible refine Kd.C_drew ?_))); (case side2 => exact HC0_11.out); rintro e w13 ⟨v291, rfl, ho0, hb⟩; have n0_ := Aside0.mk (Kd.R_lower ho0 (below_size (by repeat (first | (with_reducible first | exact HB.out | apply below_alloc | apply pw_below_drewN | apply below_drew1 | refine below_set ?_ GE288.out) | exact HB.out)))); have n1_ := Aside0.mk (blk_below (g := gb288) (o := .cells #[.int .i64 a0_0, .int .i64 a0_1, .int .i64 a0_2, .string a0_3, .int .i64 a0_4, .int .i64 a0_5, .int .i64 a0_6, .int .i64 a0_7, .int .i32 a0_8, .string a0_9, .int .i64 a0_10, .slice A0_11 l0_11.length c0_11, .int .u32 a0_12, .bool a0_13, .bool a0_14] 27 (0, 0)) (by (with_reducible repeat (first | refine blk_drewN ?_ _ | refine blk_drew ?_ | refine blk_alloc ?_ _)); exact BK288.out) hb); have n2_ := Aside0.mk (below_step (by repeat (first | (with_reducible first | exact HB.out | apply below_alloc | apply pw_below_drewN | apply below_drew1 | refine below_set ?_ GE288.out) | exact HB.out)) hb); clear BK288; clear HB; have HO292 := n0_; have BK288 := n1_; have HB := n2_; clear n0_ n1_ n2_; (try clear hb); (try clear hb2); (try clear hk); (try clear hi); (try clear ho0))); go_upto_region 6 with (first | ((with_reducible refine gate_dst (N := 1) rfl ?_); (try (refine gate_guard (by rfl) ?_; dsimp only)); refine box_event ?hg (N := 1) ?hd (cs := #[.int .i64 a0_0, .int .i64 a0_1, .int .i64 a0_2, .string a0_3, .int .i64 a0_4, .int .i64 a0_5, .int .i64 a0_6, .int .i64 a0_7, .int .i32 a0_8, .string a0_9, .int .i64 a0_10, .slice A0_11 l0_11.length c0_11, .int .u32 a0_12, .bool a0_13, .bool a0_14]) (t := 27) ?hr ?_; (case hd => rfl); (case hg => rfl); (case hr => first | (go_simp; done) | (go_simp; rfl)); intro gb288 hg w10 hbox hb; have n0_ := Aside0.mk (below_step (by repeat (first | (with_reducible first | exact HB.out | apply below_alloc | apply pw_below_drewN | apply below_drew1) | exact HB.out)) hb); have n1_ := Aside0.mk (hbox); have n2_ := Aside0.mk ((by rw [hg]; exact (below_size (by repeat (first | (with_reducible first | exact HB.out | apply below_alloc | apply pw_below_drewN | apply below_drew1) | exact HB.out))) : w.heap.size ≤ gb288)); have n3_ := Aside0.mk ((by rw [hg]; exact (below_size (by repeat (first | (with_reducible first | exact HB.out | apply below_alloc | apply pw_below_drewN | apply below_drew1) | exact HB.out))) : w.heap.size ≤ gb288)); clear HB; have HB := n0_; have BK288 := n1_; have GW288 := n2_; have GE288 := n3_; clear n0_ n1_ n2_ n3_; clear hb hbox hg) | (go_at_call 7; (with_reducible refine (typecaselaw18_awake.calls k  true _ A2.out).mono ?_); rintro e w11 ⟨rfl, hb⟩; have n0_ := Aside0.mk (blk_below (g := gb288) (o := .cells #[.int .i64 a0_0, .int .i64 a0_1, .int .i64 a0_2, .string a0_3, .int .i64 a0_4, .int .i64 a0_5, .int .i64 a0_6, .int .i64 a0_7, .int .i32 a0_8, .string a0_9, .int .i64 a0_10, .slice A0_11 l0_11.length c0_11, .int .u32 a0_12, .bool a0_13, .bool a0_14] 27 (0, 0)) (by (with_reducible repeat (first | refine blk_drewN ?_ _ | refine blk_drew ?_ | refine blk_alloc ?_ _)); exact BK288.out) hb); have n1_ := Aside0.mk (below_step (by repeat (first | (with_reducible first | exact HB.out | apply below_alloc | apply pw_below_drewN | apply below_drew1 | refine below_set ?_ GE288.out) | exact HB.out)) hb); clear BK288; clear HB; have BK288 := n0_; have HB := n1_; clear n0_ n1_; (try clear hb); (try clear hb2); (try clear hk); (try clear hi); have hcz12_0 : w11.cell? ⟨gb288, 0, none⟩ = some (.int .i64 a0_0) := (blk_cell BK288.out 0).trans rfl; have hcz12_1 : w11.cell? ⟨gb288, 1, none⟩ = some (.int .i64 a0_1) := (blk_cell BK288.out 1).trans rfl; have hcz12_2 : w11.cell? ⟨gb288, 2, none⟩ = some (.int .i64 a0_2) := (blk_cell BK288.out 2).trans rfl; have hcz12_3 : w11.cell? ⟨gb288, 3, none⟩ = some (.string a0_3) := (blk_cell BK288.out 3).trans rfl; have hcz12_4 : w11.cell? ⟨gb288, 4, none⟩ = some (.int .i64 a0_4) := (blk_cell BK288.out 4).trans rfl; have hcz12_5 : w11.cell? ⟨gb288, 5, none⟩ = some (.int .i64 a0_5) := (blk_cell BK288.out 5).trans rfl; have hcz12_6 : w11.cell? ⟨gb288, 6, none⟩ = some (.int .i64 a0_6) := (blk_cell BK288.out 6).trans rfl; have hcz12_7 : w11.cell? ⟨gb288, 7, none⟩ = some (.int .i64 a0_7) := (blk_cell BK288.out 7).trans rfl; have hcz12_8 : w11.cell? ⟨gb288, 8, none⟩ = some (.int .i32 a0_8) := (blk_cell BK288.out 8).trans rfl; have hcz12_9 : w11.cell? ⟨gb288, 9, none⟩ = some (.string a0_9) := (blk_cell BK288.out 9).trans rfl; have hcz12_10 : w11.cell? ⟨gb288, 10, none⟩ = some (.int .i64 a0_10) := (blk_cell BK288.out 10).trans rfl; have hcz12_11 : w11.cell? ⟨gb288, 11, none⟩ = some (.slice A0_11 l0_11.length c0_11) := (blk_cell BK288.out 11).trans rfl; have hcz12_12 : w11.cell? ⟨gb288, 12, none⟩ = some (.int .u32 a0_12) := (blk_cell BK288.out 12).trans rfl; have hcz12_13 : w11.cell? ⟨gb288, 13, none⟩ = some (.bool a0_13) := (blk_cell BK288.out 13).trans rfl; have hcz12_14 : w11.cell? ⟨gb288, 14, none⟩ = some (.bool a0_14) := (blk_cell BK288.out 14).trans rfl; have hfz12_0 := blk_frozen BK288.out 0; have hfz12_1 := blk_frozen BK288.out 1; have hfz12_2 := blk_frozen BK288.out 2; have hfz12_3 := blk_frozen BK288.out 3; have hfz12_4 := blk_frozen BK288.out 4; have hfz12_5 := blk_frozen BK288.out 5; have hfz12_6 := blk_frozen BK288.out 6; have hfz12_7 := blk_frozen BK288.out 7; have hfz12_8 := blk_frozen BK288.out 8; have hfz12_9 := blk_frozen BK288.out 9; have hfz12_10 := blk_frozen BK288.out 10; have hfz12_11 := blk_frozen BK288.out 11; have hfz12_12 := blk_frozen BK288.out 12; have hfz12_13 := blk_frozen BK288.out 13; have hfz12_14 := blk_frozen BK288.out 14) | (go_at_call 13; (with_reducible refine (span_Classes.calls k a0_0 a0_1 a0_2 a0_3 a0_4 a0_5 a0_6 a0_7 a0_8 a0_9 a0_10 _ _ l0_11 a0_12 a0_13 a0_14 t290 _ ?side1 ?side2 A8.out).mono ?_); (case side1 => repeat (first | exact (Kd.C_below HR0_11.out HB.out) | (with_reducible refine Kd.C_alloc ?_ _) | (with_reducible refine Kd.C_drewN ?_ _) | (with_reducible refine Kd.C_drew ?_))); (case side2 => exact HC0_11.out); rintro e w13 ⟨v291, rfl, ho0, hb⟩; have n0_ := Aside0.mk (Kd.R_lower ho0 (below_size (by repeat (first | (with_reducible first | exact HB.out | apply below_alloc | apply pw_below_drewN | apply below_drew1 | refine below_set ?_ GE288.out) | exact HB.out)))); have n1_ := Aside0.mk (blk_below (g := gb288) (o := .cells #[.int .i64 a0_0, .int .i64 a0_1, .int .i64 a0_2, .string a0_3, .int .i64 a0_4, .int .i64 a0_5, .int .i64 a0_6, .int .i64 a0_7, .int .i32 a0_8, .string a0_9, .int .i64 a0_10, .slice A0_11 l0_11.length c0_11, .int .u32 a0_12, .bool a0_13, .bool a0_14] 27 (0, 0)) (by (with_reducible repeat (first | refine blk_drewN ?_ _ | refine blk_drew ?_ | refine blk_alloc ?_ _)); exact BK288.out) hb); have n2_ := Aside0.mk (below_step (by repeat (first | (with_reducible first | exact HB.out | apply below_alloc | apply pw_below_drewN | apply below_drew1 | refine below_set ?_ GE288.out) | exact HB.out)) hb); clear BK288; clear HB; have HO292 := n0_; have BK288 := n1_; have HB := n2_; clear n0_ n1_ n2_; (try clear hb); (try clear hb2); (try clear hk); (try clear hi); (try clear ho0))))
      (try simp only [Act.put, List.setIfInBounds_toArray, List.set_cons_zero, List.set_cons_succ])
      go_cut [22] (fun v22 wc => ∃ (kq : Nat) (x22_8 : Bool), v22 = .bool x22_8 ∧ Aside0 (typecaselaw18_SpanClimbs.j0 kq t290 x22_8 a0_0 a0_1 a0_2 a0_3 a0_4 a0_5 a0_6 a0_7 a0_8 a0_9 a0_10 l0_11 a0_12 a0_13 a0_14 = some r) ∧ Aside0 (kq ≤ k) ∧ Aside0 (Kd.R (Kd.int .i64) 3 wc w.heap.size (fun _ => True) v291 t290) ∧ Aside0 (wc.heap[gb288]? = some (.cells #[.int .i64 a0_0, .int .i64 a0_1, .int .i64 a0_2, .string a0_3, .int .i64 a0_4, .int .i64 a0_5, .int .i64 a0_6, .int .i64 a0_7, .int .i32 a0_8, .string a0_9, .int .i64 a0_10, (.slice A0_11 l0_11.length c0_11), .int .u32 a0_12, .bool a0_13, .bool a0_14] 27 (0, 0))) ∧ Aside0 (Below w.heap.size w wc))
      case first =>
        have H := HC9.out
        clear HC9
        by_cases c14 : (t290.length : Int) < 1
        · rw [if_pos c14] at H
          have c14b0 : decide ((t290.length : Int) < 1) = true := decide_eq_true c14
          have c14b1 : decide (t290.length < 1) = true := decide_eq_true (by omega)
          clear c14
          (first | rw [c14b0] | (simp only [i64_w, i32_w]; rw [c14b0]) | skip)
          have H' := Aside0.mk H
          clear H
          obtain ⟨Ao15, co15, eo15⟩ := Kd.R_slice HO292.out
          subst eo15
          go_wp2
          repeat (go_quiet (fail); try go_wp2)
          go_meet
          case rel => exact ⟨_, (true), (by first | rfl | (simp; done) | (simp [*]; done)), H', ⟨by first | omega | exact Nat.le_refl _⟩, ⟨by (with_reducible repeat (first | apply Kd.R_alloc | apply Kd.R_drewN | apply Kd.R_drew)); exact HO292.out⟩, ⟨by (with_reducible repeat (first | refine blk_drewN ?_ _ | refine blk_drew ?_ | refine blk_alloc ?_ _)); exact BK288.out⟩, ⟨by repeat (first | (with_reducible first | exact HB.out | apply below_alloc | apply pw_below_drewN | apply below_drew1 | refine below_set ?_ GE288.out) | exact HB.out)⟩⟩
        · rw [if_neg c14] at H
          have c14b0 : decide ((t290.length : Int) < 1) = false := decide_eq_false c14
          have c14b1 : decide (t290.length < 1) = false := decide_eq_false (by omega)
          clear c14
          (first | rw [c14b0] | (simp only [i64_w, i32_w]; rw [c14b0]) | skip)
          have H' := Aside0.mk H
          clear H
          obtain ⟨Ao16, co16, eo16⟩ := Kd.R_slice HO292.out
          subst eo16
          go_wp2
          repeat (go_quiet (fail); try go_wp2)
          go_meet
          case rel => exact ⟨_, (decide ((t290.length : Int) > 3)), (by first | rfl | (simp; done) | (simp [*]; done)), H', ⟨by first | omega | exact Nat.le_refl _⟩, ⟨by (with_reducible repeat (first | apply Kd.R_alloc | apply Kd.R_drewN | apply Kd.R_drew)); exact HO292.out⟩, ⟨by (with_reducible repeat (first | refine blk_drewN ?_ _ | refine blk_drew ?_ | refine blk_alloc ?_ _)); exact BK288.out⟩, ⟨by repeat (first | (with_reducible first | exact HB.out | apply below_alloc | apply pw_below_drewN | apply below_drew1 | refine below_set ?_ GE288.out) | exact HB.out)⟩⟩
      case rest =>
        clear HC9
        try clear c1
        try clear p2
        try clear c3
        try clear c4
        try clear c4b0
        try clear c4b1
        try clear c6
        try clear c14
        try clear c14b0
        try clear c14b1
        try clear hcz12_0 hcz12_1 hcz12_10 hcz12_11 hcz12_12 hcz12_13 hcz12_14 hcz12_2 hcz12_3 hcz12_4 hcz12_5 hcz12_6 hcz12_7 hcz12_8 hcz12_9 hfz12_0 hfz12_1 hfz12_10 hfz12_11 hfz12_12 hfz12_13 hfz12_14 hfz12_2 hfz12_3 hfz12_4 hfz12_5 hfz12_6 hfz12_7 hfz12_8 hfz12_9
        try clear hcz7_0 hcz7_1 hcz7_10 hcz7_11 hcz7_12 hcz7_13 hcz7_14 hcz7_2 hcz7_3 hcz7_4 hcz7_5 hcz7_6 hcz7_7 hcz7_8 hcz7_9 hfz7_0 hfz7_1 hfz7_10 hfz7_11 hfz7_12 hfz7_13 hfz7_14 hfz7_2 hfz7_3 hfz7_4 hfz7_5 hfz7_6 hfz7_7 hfz7_8 hfz7_9
        obtain ⟨kq, x22_8, rfl, HA, HJ8, HO_3, BK288, HB⟩ := hcut
        cases kq with
        | zero => exact absurd HA.out (by simp [typecaselaw18_SpanClimbs.j0])
        | succ kj8 =>
          have H := HA.out
          clear HA
          simp only [typecaselaw18_SpanClimbs.j0] at H
          by_cases c17 : x22_8 = true
          · subst c17
            have H1 : (some false) = some r := by rw [if_pos rfl] at H; exact H
            clear H
            have H := H1
            clear H1
            obtain rfl := Option.some.inj H
            go_wp2
            repeat (go_quiet (fail); try go_wp2)
            go_ret
            exact ⟨by first | rfl | (simp [errW_none, errW_some] <;> rfl) | (simp [*, errW_none, errW_some] <;> rfl), by repeat (first | (with_reducible first | exact HB.out | apply below_alloc | apply pw_below_drewN | apply below_drew1 | refine below_set ?_ GE288.out) | exact HB.out)⟩
          · replace c17 := Bool.eq_false_iff.mpr c17
            subst c17
            have H1 : ((span_Next.f kj8 a0_0 a0_1 a0_2 a0_3 a0_4 a0_5 a0_6 a0_7 a0_8 a0_9 a0_10 l0_11 a0_12 a0_13 a0_14 (-1)).bind fun bt293 => (typecaselaw18_SpanClimbs.l0 kj8 t290 bt293.1 bt293.2 0 a0_0 a0_1 a0_2 a0_3 a0_4 a0_5 a0_6 a0_7 a0_8 a0_9 a0_10 l0_11 a0_12 a0_13 a0_14)) = some r := by rw [if_neg (show ¬ (false = true) by decide)] at H; exact H
            clear H
            have H := H1
            clear H1
            replace H := Option.bind_eq_some_iff.mp H
            obtain ⟨⟨t293, t294⟩, A180, H⟩ := H
            replace H : (typecaselaw18_SpanClimbs.l0 kj8 t290 t293 t294 0 a0_0 a0_1 a0_2 a0_3 a0_4 a0_5 a0_6 a0_7 a0_8 a0_9 a0_10 l0_11 a0_12 a0_13 a0_14) = some r := H
            have A18 := Aside0.mk A180
            clear A180
            have H' := Aside0.mk H
            clear H
            have hcz19_0 : wc.cell? ⟨gb288, 0, none⟩ = some (.int .i64 a0_0) := (blk_cell BK288.out 0).trans rfl
            have hcz19_1 : wc.cell? ⟨gb288, 1, none⟩ = some (.int .i64 a0_1) := (blk_cell BK288.out 1).trans rfl
            have hcz19_2 : wc.cell? ⟨gb288, 2, none⟩ = some (.int .i64 a0_2) := (blk_cell BK288.out 2).trans rfl
            have hcz19_3 : wc.cell? ⟨gb288, 3, none⟩ = some (.string a0_3) := (blk_cell BK288.out 3).trans rfl
            have hcz19_4 : wc.cell? ⟨gb288, 4, none⟩ = some (.int .i64 a0_4) := (blk_cell BK288.out 4).trans rfl
            have hcz19_5 : wc.cell? ⟨gb288, 5, none⟩ = some (.int .i64 a0_5) := (blk_cell BK288.out 5).trans rfl
            have hcz19_6 : wc.cell? ⟨gb288, 6, none⟩ = some (.int .i64 a0_6) := (blk_cell BK288.out 6).trans rfl
            have hcz19_7 : wc.cell? ⟨gb288, 7, none⟩ = some (.int .i64 a0_7) := (blk_cell BK288.out 7).trans rfl
            have hcz19_8 : wc.cell? ⟨gb288, 8, none⟩ = some (.int .i32 a0_8) := (blk_cell BK288.out 8).trans rfl
            have hcz19_9 : wc.cell? ⟨gb288, 9, none⟩ = some (.string a0_9) := (blk_cell BK288.out 9).trans rfl
            have hcz19_10 : wc.cell? ⟨gb288, 10, none⟩ = some (.int .i64 a0_10) := (blk_cell BK288.out 10).trans rfl
            have hcz19_11 : wc.cell? ⟨gb288, 11, none⟩ = some (.slice A0_11 l0_11.length c0_11) := (blk_cell BK288.out 11).trans rfl
            have hcz19_12 : wc.cell? ⟨gb288, 12, none⟩ = some (.int .u32 a0_12) := (blk_cell BK288.out 12).trans rfl
            have hcz19_13 : wc.cell? ⟨gb288, 13, none⟩ = some (.bool a0_13) := (blk_cell BK288.out 13).trans rfl
            have hcz19_14 : wc.cell? ⟨gb288, 14, none⟩ = some (.bool a0_14) := (blk_cell BK288.out 14).trans rfl
            have hfz19_0 := blk_frozen BK288.out 0
            have hfz19_1 := blk_frozen BK288.out 1
            have hfz19_2 := blk_frozen BK288.out 2
            have hfz19_3 := blk_frozen BK288.out 3
            have hfz19_4 := blk_frozen BK288.out 4
            have hfz19_5 := blk_frozen BK288.out 5
            have hfz19_6 := blk_frozen BK288.out 6
            have hfz19_7 := blk_frozen BK288.out 7
            have hfz19_8 := blk_frozen BK288.out 8
            have hfz19_9 := blk_frozen BK288.out 9
            have hfz19_10 := blk_frozen BK288.out 10
            have hfz19_11 := blk_frozen BK288.out 11
            have hfz19_12 := blk_frozen BK288.out 12
            have hfz19_13 := blk_frozen BK288.out 13
            have hfz19_14 := blk_frozen BK288.out 14
            go_wp2_with (first | (go_at_call 10; (with_reducible refine (span_Next.calls kj8 a0_0 a0_1 a0_2 a0_3 a0_4 a0_5 a0_6 a0_7 a0_8 a0_9 a0_10 _ _ l0_11 a0_12 a0_13 a0_14 (-1) t293 t294 _ ?side1 ?side2 A18.out).mono ?_); (case side1 => repeat (first | exact (Kd.C_below HR0_11.out HB.out) | (with_reducible refine Kd.C_alloc ?_ _) | (with_reducible refine Kd.C_drewN ?_ _) | (with_reducible refine Kd.C_drew ?_))); (case side2 => exact HC0_11.out); rintro e w20 ⟨rfl, hb⟩; have n0_ := Aside0.mk (Kd.R_below (by (with_reducible repeat (first | apply Kd.R_alloc | apply Kd.R_drewN | apply Kd.R_drew)); exact HO_3.out) hb); have n1_ := Aside0.mk (blk_below (g := gb288) (o := .cells #[.int .i64 a0_0, .int .i64 a0_1, .int .i64 a0_2, .string a0_3, .int .i64 a0_4, .int .i64 a0_5, .int .i64 a0_6, .int .i64 a0_7, .int .i32 a0_8, .string a0_9, .int .i64 a0_10, .slice A0_11 l0_11.length c0_11, .int .u32 a0_12, .bool a0_13, .bool a0_14] 27 (0, 0)) (by (with_reducible repeat (first | refine blk_drewN ?_ _ | refine blk_drew ?_ | refine blk_alloc ?_ _)); exact BK288.out) hb); have n2_ := Aside0.mk (below_step (by repeat (first | (with_reducible first | exact HB.out | apply below_alloc | apply pw_below_drewN | apply below_drew1 | refine below_set ?_ GE288.out) | exact HB.out)) hb); clear HO_3; clear BK288; clear HB; have HO_3 := n0_; have BK288 := n1_; have HB := n2_; clear n0_ n1_ n2_; (try clear hb); (try clear hb2); (try clear hk); (try clear hi)))
            repeat (go_quiet (first | (go_at_call 10; (with_reducible refine (span_Next.calls kj8 a0_0 a0_1 a0_2 a0_3 a0_4 a0_5 a0_6 a0_7 a0_8 a0_9 a0_10 _ _ l0_11 a0_12 a0_13 a0_14 (-1) t293 t294 _ ?side1 ?side2 A18.out).mono ?_); (case side1 => repeat (first | exact (Kd.C_below HR0_11.out HB.out) | (with_reducible refine Kd.C_alloc ?_ _) | (with_reducible refine Kd.C_drewN ?_ _) | (with_reducible refine Kd.C_drew ?_))); (case side2 => exact HC0_11.out); rintro e w20 ⟨rfl, hb⟩; have n0_ := Aside0.mk (Kd.R_below (by (with_reducible repeat (first | apply Kd.R_alloc | apply Kd.R_drewN | apply Kd.R_drew)); exact HO_3.out) hb); have n1_ := Aside0.mk (blk_below (g := gb288) (o := .cells #[.int .i64 a0_0, .int .i64 a0_1, .int .i64 a0_2, .string a0_3, .int .i64 a0_4, .int .i64 a0_5, .int .i64 a0_6, .int .i64 a0_7, .int .i32 a0_8, .string a0_9, .int .i64 a0_10, .slice A0_11 l0_11.length c0_11, .int .u32 a0_12, .bool a0_13, .bool a0_14] 27 (0, 0)) (by (with_reducible repeat (first | refine blk_drewN ?_ _ | refine blk_drew ?_ | refine blk_alloc ?_ _)); exact BK288.out) hb); have n2_ := Aside0.mk (below_step (by repeat (first | (with_reducible first | exact HB.out | apply below_alloc | apply pw_below_drewN | apply below_drew1 | refine below_set ?_ GE288.out) | exact HB.out)) hb); clear HO_3; clear BK288; clear HB; have HO_3 := n0_; have BK288 := n1_; have HB := n2_; clear n0_ n1_ n2_; (try clear hb); (try clear hb2); (try clear hk); (try clear hi))); try go_wp2_with (first | (go_at_call 10; (with_reducible refine (span_Next.calls kj8 a0_0 a0_1 a0_2 a0_3 a0_4 a0_5 a0_6 a0_7 a0_8 a0_9 a0_10 _ _ l0_11 a0_12 a0_13 a0_14 (-1) t293 t294 _ ?side1 ?side2 A18.out).mono ?_); (case side1 => repeat (first | exact (Kd.C_below HR0_11.out HB.out) | (with_reducible refine Kd.C_alloc ?_ _) | (with_reducible refine Kd.C_drewN ?_ _) | (with_reducible refine Kd.C_drew ?_))); (case side2 => exact HC0_11.out); rintro e w20 ⟨rfl, hb⟩; have n0_ := Aside0.mk (Kd.R_below (by (with_reducible repeat (first | apply Kd.R_alloc | apply Kd.R_drewN | apply Kd.R_drew)); exact HO_3.out) hb); have n1_ := Aside0.mk (blk_below (g := gb288) (o := .cells #[.int .i64 a0_0, .int .i64 a0_1, .int .i64 a0_2, .string a0_3, .int .i64 a0_4, .int .i64 a0_5, .int .i64 a0_6, .int .i64 a0_7, .int .i32 a0_8, .string a0_9, .int .i64 a0_10, .slice A0_11 l0_11.length c0_11, .int .u32 a0_12, .bool a0_13, .bool a0_14] 27 (0, 0)) (by (with_reducible repeat (first | refine blk_drewN ?_ _ | refine blk_drew ?_ | refine blk_alloc ?_ _)); exact BK288.out) hb); have n2_ := Aside0.mk (below_step (by repeat (first | (with_reducible first | exact HB.out | apply below_alloc | apply pw_below_drewN | apply below_drew1 | refine below_set ?_ GE288.out) | exact HB.out)) hb); clear HO_3; clear BK288; clear HB; have HO_3 := n0_; have BK288 := n1_; have HB := n2_; clear n0_ n1_ n2_; (try clear hb); (try clear hb2); (try clear hk); (try clear hi))))
            go_loopg [4, 5, 6] kj8 (fun kq v4 v5 v6 w' => ∃ (x4_2 : Int) (x5_2 : Bool) (x6_2 : Int), v4 = .int .i64 x4_2 ∧ v5 = .bool x5_2 ∧ v6 = .int .i64 x6_2 ∧ Aside0 (typecaselaw18_SpanClimbs.l0 kq t290 x4_2 x5_2 x6_2 a0_0 a0_1 a0_2 a0_3 a0_4 a0_5 a0_6 a0_7 a0_8 a0_9 a0_10 l0_11 a0_12 a0_13 a0_14 = some r) ∧ Aside0 (kq ≤ kj8) ∧ Aside0 (Kd.R (Kd.int .i64) 3 w' w.heap.size (fun _ => True) v291 t290) ∧ Aside0 (w'.heap[gb288]? = some (.cells #[.int .i64 a0_0, .int .i64 a0_1, .int .i64 a0_2, .string a0_3, .int .i64 a0_4, .int .i64 a0_5, .int .i64 a0_6, .int .i64 a0_7, .int .i32 a0_8, .string a0_9, .int .i64 a0_10, (.slice A0_11 l0_11.length c0_11), .int .u32 a0_12, .bool a0_13, .bool a0_14] 27 (0, 0))) ∧ Aside0 (Below w.heap.size w w'))
            case atStart => exact ⟨(t293), (t294), (0), (by first | rfl | (simp; done) | (simp [*]; done)), (by first | rfl | (simp; done) | (simp [*]; done)), (by first | rfl | (simp; done) | (simp [*]; done)), H', ⟨Nat.le_refl _⟩, ⟨by (with_reducible repeat (first | apply Kd.R_alloc | apply Kd.R_drewN | apply Kd.R_drew)); exact HO_3.out⟩, ⟨by (with_reducible repeat (first | refine blk_drewN ?_ _ | refine blk_drew ?_ | refine blk_alloc ?_ _)); exact BK288.out⟩, ⟨by repeat (first | (with_reducible first | exact HB.out | apply below_alloc | apply pw_below_drewN | apply below_drew1 | refine below_set ?_ GE288.out) | exact HB.out)⟩⟩
            case round =>
              clear H'
              try clear c1
              try clear p2
              try clear c3
              try clear c4
              try clear c4b0
              try clear c4b1
              try clear c6
              try clear c14
              try clear c14b0
              try clear c14b1
              try clear c17
              try clear hcz12_0 hcz12_1 hcz12_10 hcz12_11 hcz12_12 hcz12_13 hcz12_14 hcz12_2 hcz12_3 hcz12_4 hcz12_5 hcz12_6 hcz12_7 hcz12_8 hcz12_9 hfz12_0 hfz12_1 hfz12_10 hfz12_11 hfz12_12 hfz12_13 hfz12_14 hfz12_2 hfz12_3 hfz12_4 hfz12_5 hfz12_6 hfz12_7 hfz12_8 hfz12_9
              try clear hcz19_0 hcz19_1 hcz19_10 hcz19_11 hcz19_12 hcz19_13 hcz19_14 hcz19_2 hcz19_3 hcz19_4 hcz19_5 hcz19_6 hcz19_7 hcz19_8 hcz19_9 hfz19_0 hfz19_1 hfz19_10 hfz19_11 hfz19_12 hfz19_13 hfz19_14 hfz19_2 hfz19_3 hfz19_4 hfz19_5 hfz19_6 hfz19_7 hfz19_8 hfz19_9
              try clear hcz7_0 hcz7_1 hcz7_10 hcz7_11 hcz7_12 hcz7_13 hcz7_14 hcz7_2 hcz7_3 hcz7_4 hcz7_5 hcz7_6 hcz7_7 hcz7_8 hcz7_9 hfz7_0 hfz7_1 hfz7_10 hfz7_11 hfz7_12 hfz7_13 hfz7_14 hfz7_2 hfz7_3 hfz7_4 hfz7_5 hfz7_6 hfz7_7 hfz7_8 hfz7_9
              try clear p2
              obtain ⟨x4_2, x5_2, x6_2, rfl, rfl, rfl, HA, HK2, HO_3, BK288, HB⟩ := hrel
              cases gk with
              | zero => exact absurd HA.out (by simp [typecaselaw18_SpanClimbs.l0])
              | succ k2 =>
                have H := HA.out
                clear HA
                simp only [typecaselaw18_SpanClimbs.l0] at H
                by_cases c21 : x6_2 < (t290.length : Int)
                · rw [if_pos c21] at H
                  have c21b0 : decide (x6_2 < (t290.length : Int)) = true := decide_eq_true c21
                  clear c21
                  by_cases c22 : x5_2 = true
                  · subst c22
                    have H1 : (if 0 ≤ x6_2 then (if x4_2 = (rd t290 x6_2) then (if x6_2 > 0 then (if 0 ≤ (wrap64 (x6_2 - 1)) then (if (wrap64 (x6_2 - 1)) < (t290.length : Int) then (if (rd t290 x6_2) ≤ (rd t290 (wrap64 (x6_2 - 1))) then (some false) else ((span_Next.f k2 a0_0 a0_1 a0_2 a0_3 a0_4 a0_5 a0_6 a0_7 a0_8 a0_9 a0_10 l0_11 a0_12 a0_13 a0_14 x4_2).bind fun bt298 => (typecaselaw18_SpanClimbs.l0 k2 t290 bt298.1 bt298.2 (wrap64 (x6_2 + 1)) a0_0 a0_1 a0_2 a0_3 a0_4 a0_5 a0_6 a0_7 a0_8 a0_9 a0_10 l0_11 a0_12 a0_13 a0_14))) else (none)) else (none)) else ((span_Next.f k2 a0_0 a0_1 a0_2 a0_3 a0_4 a0_5 a0_6 a0_7 a0_8 a0_9 a0_10 l0_11 a0_12 a0_13 a0_14 x4_2).bind fun bt300 => (typecaselaw18_SpanClimbs.l0 k2 t290 bt300.1 bt300.2 (wrap64 (x6_2 + 1)) a0_0 a0_1 a0_2 a0_3 a0_4 a0_5 a0_6 a0_7 a0_8 a0_9 a0_10 l0_11 a0_12 a0_13 a0_14))) else (some false)) else (none)) = some r := by rw [if_pos rfl] at H; exact H
                    clear H
                    have H := H1
                    clear H1
                    by_cases c23 : 0 ≤ x6_2
                    · rw [if_pos c23] at H
                      have c23b0 : decide (0 ≤ x6_2) = true := decide_eq_true c23
                      clear c23
                      by_cases c24 : x4_2 = (rd t290 x6_2)
                      · rw [if_pos c24] at H
                        have c24b0 : (x4_2 == (rd t290 x6_2)) = true := beq_iff_eq.mpr c24
                        have c24b1 : (x4_2 != (rd t290 x6_2)) = false := bne_eq_false_iff_eq.mpr c24
                        clear c24
                        by_cases c25 : x6_2 > 0
                        · rw [if_pos c25] at H
                          have c25b0 : decide (0 < x6_2) = true := decide_eq_true c25
                          clear c25
                          obtain ⟨ji26, hji26⟩ : ∃ j_ : Int, (wrap64 (x6_2 - 1)) = j_ := ⟨_, rfl⟩
                          replace H : (if 0 ≤ (ji26) then (if (ji26) < (t290.length : Int) then (if (rd t290 x6_2) ≤ (rd t290 (ji26)) then (some false) else ((span_Next.f k2 a0_0 a0_1 a0_2 a0_3 a0_4 a0_5 a0_6 a0_7 a0_8 a0_9 a0_10 l0_11 a0_12 a0_13 a0_14 x4_2).bind fun bt298 => (typecaselaw18_SpanClimbs.l0 k2 t290 bt298.1 bt298.2 (wrap64 (x6_2 + 1)) a0_0 a0_1 a0_2 a0_3 a0_4 a0_5 a0_6 a0_7 a0_8 a0_9 a0_10 l0_11 a0_12 a0_13 a0_14))) else (none)) else (none)) = some r := by first | (rw [hji26] at H; exact H) | (simp only [hji26] at H ⊢; exact H)
                          have hji26w : (IntKind.i64.wrap (x6_2 - 1)) = ji26 := (i64_w _).trans hji26
                          by_cases c27 : 0 ≤ (ji26)
                          · rw [if_pos c27] at H
                            have c27b0 : decide (0 ≤ (ji26)) = true := decide_eq_true c27
                            clear c27
                            by_cases c28 : (ji26) < (t290.length : Int)
                            · rw [if_pos c28] at H
                              have c28b0 : decide ((ji26) < (t290.length : Int)) = true := decide_eq_true c28
                              clear c28
                              by_cases c29 : (rd t290 x6_2) ≤ (rd t290 (ji26))
                              · rw [if_pos c29] at H
                                have c29b0 : decide ((rd t290 x6_2) ≤ (rd t290 (ji26))) = true := decide_eq_true c29
                                clear c29
                                obtain rfl := Option.some.inj H
                                obtain ⟨Ao30, co30, eo30⟩ := Kd.R_slice HO_3.out
                                subst eo30
                                have p295 : 0 ≤ (x6_2 : Int) := of_decide_eq_true (by first | (with_reducible assumption) | assumption)
                                have q295 : x6_2 < (t290.length : Int) := of_decide_eq_true (by first | (with_reducible assumption) | assumption)
                                obtain ⟨ad295, e295, hx295_0⟩ := Kd.at_int (Kd.R_reads' HO_3.out).2.2 x6_2 p295 q295
                                cases e295
                                replace p295 := eq_true p295
                                replace q295 := eq_true q295
                                have p296 : 0 ≤ (x6_2 : Int) := of_decide_eq_true (by first | (with_reducible assumption) | assumption)
                                have q296 : x6_2 < (t290.length : Int) := of_decide_eq_true (by first | (with_reducible assumption) | assumption)
                                obtain ⟨ad296, e296, hx296_0⟩ := Kd.at_int (Kd.R_reads' HO_3.out).2.2 x6_2 p296 q296
                                obtain rfl : ad295 = ad296 := (by injection e296)
                                replace p296 := eq_true p296
                                replace q296 := eq_true q296
                                have p297 : 0 ≤ ((ji26) : Int) := of_decide_eq_true (by first | (with_reducible assumption) | assumption)
                                have q297 : (ji26) < (t290.length : Int) := of_decide_eq_true (by first | (with_reducible assumption) | assumption)
                                obtain ⟨ad297, e297, hx297_0⟩ := Kd.at_int (Kd.R_reads' HO_3.out).2.2 (ji26) p297 q297
                                obtain rfl : ad295 = ad297 := (by injection e297)
                                replace p297 := eq_true p297
                                replace q297 := eq_true q297
                                go_wp2
                                repeat (go_quiet (fail); try go_wp2)
                                go_ret
                                exact ⟨by first | rfl | (simp [errW_none, errW_some] <;> rfl) | (simp only [← hji26]; first | rfl | (simp [errW_none, errW_some] <;> rfl)) | (simp [*, errW_none, errW_some] <;> rfl), by repeat (first | (with_reducible first | exact HB.out | apply below_alloc | apply pw_below_drewN | apply below_drew1 | refine below_set ?_ GE288.out) | exact HB.out)⟩
                              · rw [if_neg c29] at H
                                have c29b0 : decide ((rd t290 x6_2) ≤ (rd t290 (ji26))) = false := decide_eq_false c29
                                clear c29
                                replace H := Option.bind_eq_some_iff.mp H
                                obtain ⟨⟨t298, t299⟩, A310, H⟩ := H
                                replace H : (typecaselaw18_SpanClimbs.l0 k2 t290 t298 t299 (wrap64 (x6_2 + 1)) a0_0 a0_1 a0_2 a0_3 a0_4 a0_5 a0_6 a0_7 a0_8 a0_9 a0_10 l0_11 a0_12 a0_13 a0_14) = some r := H
                                have A31 := Aside0.mk A310
                                clear A310
                                have H' := Aside0.mk H
                                clear H
                                obtain ⟨Ao32, co32, eo32⟩ := Kd.R_slice HO_3.out
                                subst eo32
                                have p295 : 0 ≤ (x6_2 : Int) := of_decide_eq_true (by first | (with_reducible assumption) | assumption)
                                have q295 : x6_2 < (t290.length : Int) := of_decide_eq_true (by first | (with_reducible assumption) | assumption)
                                obtain ⟨ad295, e295, hx295_0⟩ := Kd.at_int (Kd.R_reads' HO_3.out).2.2 x6_2 p295 q295
                                cases e295
                                replace p295 := eq_true p295
                                replace q295 := eq_true q295
                                have p296 : 0 ≤ (x6_2 : Int) := of_decide_eq_true (by first | (with_reducible assumption) | assumption)
                                have q296 : x6_2 < (t290.length : Int) := of_decide_eq_true (by first | (with_reducible assumption) | assumption)
                                obtain ⟨ad296, e296, hx296_0⟩ := Kd.at_int (Kd.R_reads' HO_3.out).2.2 x6_2 p296 q296
                                obtain rfl : ad295 = ad296 := (by injection e296)
                                replace p296 := eq_true p296
                                replace q296 := eq_true q296
                                have p297 : 0 ≤ ((ji26) : Int) := of_decide_eq_true (by first | (with_reducible assumption) | assumption)
                                have q297 : (ji26) < (t290.length : Int) := of_decide_eq_true (by first | (with_reducible assumption) | assumption)
                                obtain ⟨ad297, e297, hx297_0⟩ := Kd.at_int (Kd.R_reads' HO_3.out).2.2 (ji26) p297 q297
                                obtain rfl : ad295 = ad297 := (by injection e297)
                                replace p297 := eq_true p297
                                replace q297 := eq_true q297
                                have hcz33_0 : wr.cell? ⟨gb288, 0, none⟩ = some (.int .i64 a0_0) := (blk_cell BK288.out 0).trans rfl
                                have hcz33_1 : wr.cell? ⟨gb288, 1, none⟩ = some (.int .i64 a0_1) := (blk_cell BK288.out 1).trans rfl
                                have hcz33_2 : wr.cell? ⟨gb288, 2, none⟩ = some (.int .i64 a0_2) := (blk_cell BK288.out 2).trans rfl
                                have hcz33_3 : wr.cell? ⟨gb288, 3, none⟩ = some (.string a0_3) := (blk_cell BK288.out 3).trans rfl
                                have hcz33_4 : wr.cell? ⟨gb288, 4, none⟩ = some (.int .i64 a0_4) := (blk_cell BK288.out 4).trans rfl
                                have hcz33_5 : wr.cell? ⟨gb288, 5, none⟩ = some (.int .i64 a0_5) := (blk_cell BK288.out 5).trans rfl
                                have hcz33_6 : wr.cell? ⟨gb288, 6, none⟩ = some (.int .i64 a0_6) := (blk_cell BK288.out 6).trans rfl
                                have hcz33_7 : wr.cell? ⟨gb288, 7, none⟩ = some (.int .i64 a0_7) := (blk_cell BK288.out 7).trans rfl
                                have hcz33_8 : wr.cell? ⟨gb288, 8, none⟩ = some (.int .i32 a0_8) := (blk_cell BK288.out 8).trans rfl
                                have hcz33_9 : wr.cell? ⟨gb288, 9, none⟩ = some (.string a0_9) := (blk_cell BK288.out 9).trans rfl
                                have hcz33_10 : wr.cell? ⟨gb288, 10, none⟩ = some (.int .i64 a0_10) := (blk_cell BK288.out 10).trans rfl
                                have hcz33_11 : wr.cell? ⟨gb288, 11, none⟩ = some (.slice A0_11 l0_11.length c0_11) := (blk_cell BK288.out 11).trans rfl
                                have hcz33_12 : wr.cell? ⟨gb288, 12, none⟩ = some (.int .u32 a0_12) := (blk_cell BK288.out 12).trans rfl
                                have hcz33_13 : wr.cell? ⟨gb288, 13, none⟩ = some (.bool a0_13) := (blk_cell BK288.out 13).trans rfl
                                have hcz33_14 : wr.cell? ⟨gb288, 14, none⟩ = some (.bool a0_14) := (blk_cell BK288.out 14).trans rfl
                                have hfz33_0 := blk_frozen BK288.out 0
                                have hfz33_1 := blk_frozen BK288.out 1
                                have hfz33_2 := blk_frozen BK288.out 2
                                have hfz33_3 := blk_frozen BK288.out 3
                                have hfz33_4 := blk_frozen BK288.out 4
                                have hfz33_5 := blk_frozen BK288.out 5
                                have hfz33_6 := blk_frozen BK288.out 6
                                have hfz33_7 := blk_frozen BK288.out 7
                                have hfz33_8 := blk_frozen BK288.out 8
                                have hfz33_9 := blk_frozen BK288.out 9
                                have hfz33_10 := blk_frozen BK288.out 10
                                have hfz33_11 := blk_frozen BK288.out 11
                                have hfz33_12 := blk_frozen BK288.out 12
                                have hfz33_13 := blk_frozen BK288.out 13
                                have hfz33_14 := blk_frozen BK288.out 14
                                go_wp2_with (first | (go_at_call 10; (with_reducible refine (span_Next.calls k2 a0_0 a0_1 a0_2 a0_3 a0_4 a0_5 a0_6 a0_7 a0_8 a0_9 a0_10 _ _ l0_11 a0_12 a0_13 a0_14 x4_2 t298 t299 _ ?side1 ?side2 A31.out).mono ?_); (case side1 => repeat (first | exact (Kd.C_below HR0_11.out HB.out) | (with_reducible refine Kd.C_alloc ?_ _) | (with_reducible refine Kd.C_drewN ?_ _) | (with_reducible refine Kd.C_drew ?_))); (case side2 => exact HC0_11.out); rintro e w34 ⟨rfl, hb⟩; have n0_ := Aside0.mk (Kd.R_below (by (with_reducible repeat (first | apply Kd.R_alloc | apply Kd.R_drewN | apply Kd.R_drew)); exact HO_3.out) hb); have n1_ := Aside0.mk (blk_below (g := gb288) (o := .cells #[.int .i64 a0_0, .int .i64 a0_1, .int .i64 a0_2, .string a0_3, .int .i64 a0_4, .int .i64 a0_5, .int .i64 a0_6, .int .i64 a0_7, .int .i32 a0_8, .string a0_9, .int .i64 a0_10, .slice A0_11 l0_11.length c0_11, .int .u32 a0_12, .bool a0_13, .bool a0_14] 27 (0, 0)) (by (with_reducible repeat (first | refine blk_drewN ?_ _ | refine blk_drew ?_ | refine blk_alloc ?_ _)); exact BK288.out) hb); have n2_ := Aside0.mk (below_step (by repeat (first | (with_reducible first | exact HB.out | apply below_alloc | apply pw_below_drewN | apply below_drew1 | refine below_set ?_ GE288.out) | exact HB.out)) hb); clear HO_3; clear BK288; clear HB; have HO_3 := n0_; have BK288 := n1_; have HB := n2_; clear n0_ n1_ n2_; (try clear hb); (try clear hb2); (try clear hk); (try clear hi)))
                                repeat (go_quiet (first | (go_at_call 10; (with_reducible refine (span_Next.calls k2 a0_0 a0_1 a0_2 a0_3 a0_4 a0_5 a0_6 a0_7 a0_8 a0_9 a0_10 _ _ l0_11 a0_12 a0_13 a0_14 x4_2 t298 t299 _ ?side1 ?side2 A31.out).mono ?_); (case side1 => repeat (first | exact (Kd.C_below HR0_11.out HB.out) | (with_reducible refine Kd.C_alloc ?_ _) | (with_reducible refine Kd.C_drewN ?_ _) | (with_reducible refine Kd.C_drew ?_))); (case side2 => exact HC0_11.out); rintro e w34 ⟨rfl, hb⟩; have n0_ := Aside0.mk (Kd.R_below (by (with_reducible repeat (first | apply Kd.R_alloc | apply Kd.R_drewN | apply Kd.R_drew)); exact HO_3.out) hb); have n1_ := Aside0.mk (blk_below (g := gb288) (o := .cells #[.int .i64 a0_0, .int .i64 a0_1, .int .i64 a0_2, .string a0_3, .int .i64 a0_4, .int .i64 a0_5, .int .i64 a0_6, .int .i64 a0_7, .int .i32 a0_8, .string a0_9, .int .i64 a0_10, .slice A0_11 l0_11.length c0_11, .int .u32 a0_12, .bool a0_13, .bool a0_14] 27 (0, 0)) (by (with_reducible repeat (first | refine blk_drewN ?_ _ | refine blk_drew ?_ | refine blk_alloc ?_ _)); exact BK288.out) hb); have n2_ := Aside0.mk (below_step (by repeat (first | (with_reducible first | exact HB.out | apply below_alloc | apply pw_below_drewN | apply below_drew1 | refine below_set ?_ GE288.out) | exact HB.out)) hb); clear HO_3; clear BK288; clear HB; have HO_3 := n0_; have BK288 := n1_; have HB := n2_; clear n0_ n1_ n2_; (try clear hb); (try clear hb2); (try clear hk); (try clear hi))); try go_wp2_with (first | (go_at_call 10; (with_reducible refine (span_Next.calls k2 a0_0 a0_1 a0_2 a0_3 a0_4 a0_5 a0_6 a0_7 a0_8 a0_9 a0_10 _ _ l0_11 a0_12 a0_13 a0_14 x4_2 t298 t299 _ ?side1 ?side2 A31.out).mono ?_); (case side1 => repeat (first | exact (Kd.C_below HR0_11.out HB.out) | (with_reducible refine Kd.C_alloc ?_ _) | (with_reducible refine Kd.C_drewN ?_ _) | (with_reducible refine Kd.C_drew ?_))); (case side2 => exact HC0_11.out); rintro e w34 ⟨rfl, hb⟩; have n0_ := Aside0.mk (Kd.R_below (by (with_reducible repeat (first | apply Kd.R_alloc | apply Kd.R_drewN | apply Kd.R_drew)); exact HO_3.out) hb); have n1_ := Aside0.mk (blk_below (g := gb288) (o := .cells #[.int .i64 a0_0, .int .i64 a0_1, .int .i64 a0_2, .string a0_3, .int .i64 a0_4, .int .i64 a0_5, .int .i64 a0_6, .int .i64 a0_7, .int .i32 a0_8, .string a0_9, .int .i64 a0_10, .slice A0_11 l0_11.length c0_11, .int .u32 a0_12, .bool a0_13, .bool a0_14] 27 (0, 0)) (by (with_reducible repeat (first | refine blk_drewN ?_ _ | refine blk_drew ?_ | refine blk_alloc ?_ _)); exact BK288.out) hb); have n2_ := Aside0.mk (below_step (by repeat (first | (with_reducible first | exact HB.out | apply below_alloc | apply pw_below_drewN | apply below_drew1 | refine below_set ?_ GE288.out) | exact HB.out)) hb); clear HO_3; clear BK288; clear HB; have HO_3 := n0_; have BK288 := n1_; have HB := n2_; clear n0_ n1_ n2_; (try clear hb); (try clear hb2); (try clear hk); (try clear hi))))
                                go_roundg k2
                                case measure => have := HJ8.out; have := HK2.out; omega
                                case rel => exact ⟨(t298), (t299), (wrap64 (x6_2 + 1)), (by first | rfl | (simp; done) | (simp [*]; done)), (by first | rfl | (simp; done) | (simp [*]; done)), (by first | rfl | (simp; done) | (simp [*]; done)), H', ⟨by have := HJ8.out; have := HK2.out; omega⟩, ⟨by (with_reducible repeat (first | apply Kd.R_alloc | apply Kd.R_drewN | apply Kd.R_drew)); exact HO_3.out⟩, ⟨by (with_reducible repeat (first | refine blk_drewN ?_ _ | refine blk_drew ?_ | refine blk_alloc ?_ _)); exact BK288.out⟩, ⟨by repeat (first | (with_reducible first | exact HB.out | apply below_alloc | apply pw_below_drewN | apply below_drew1 | refine below_set ?_ GE288.out) | exact HB.out)⟩⟩
                            · rw [if_neg c28] at H
                              exact absurd H (by simp)
                          · rw [if_neg c27] at H
                            exact absurd H (by simp)
                        · rw [if_neg c25] at H
                          have c25b0 : decide (0 < x6_2) = false := decide_eq_false c25
                          clear c25
                          replace H := Option.bind_eq_some_iff.mp H
                          obtain ⟨⟨t300, t301⟩, A350, H⟩ := H
                          replace H : (typecaselaw18_SpanClimbs.l0 k2 t290 t300 t301 (wrap64 (x6_2 + 1)) a0_0 a0_1 a0_2 a0_3 a0_4 a0_5 a0_6 a0_7 a0_8 a0_9 a0_10 l0_11 a0_12 a0_13 a0_14) = some r := H
                          have A35 := Aside0.mk A350
                          clear A350
                          have H' := Aside0.mk H
                          clear H
                          obtain ⟨Ao36, co36, eo36⟩ := Kd.R_slice HO_3.out
                          subst eo36
                          have p295 : 0 ≤ (x6_2 : Int) := of_decide_eq_true (by first | (with_reducible assumption) | assumption)
                          have q295 : x6_2 < (t290.length : Int) := of_decide_eq_true (by first | (with_reducible assumption) | assumption)
                          obtain ⟨ad295, e295, hx295_0⟩ := Kd.at_int (Kd.R_reads' HO_3.out).2.2 x6_2 p295 q295
                          cases e295
                          replace p295 := eq_true p295
                          replace q295 := eq_true q295
                          have hcz37_0 : wr.cell? ⟨gb288, 0, none⟩ = some (.int .i64 a0_0) := (blk_cell BK288.out 0).trans rfl
                          have hcz37_1 : wr.cell? ⟨gb288, 1, none⟩ = some (.int .i64 a0_1) := (blk_cell BK288.out 1).trans rfl
                          have hcz37_2 : wr.cell? ⟨gb288, 2, none⟩ = some (.int .i64 a0_2) := (blk_cell BK288.out 2).trans rfl
                          have hcz37_3 : wr.cell? ⟨gb288, 3, none⟩ = some (.string a0_3) := (blk_cell BK288.out 3).trans rfl
                          have hcz37_4 : wr.cell? ⟨gb288, 4, none⟩ = some (.int .i64 a0_4) := (blk_cell BK288.out 4).trans rfl
                          have hcz37_5 : wr.cell? ⟨gb288, 5, none⟩ = some (.int .i64 a0_5) := (blk_cell BK288.out 5).trans rfl
                          have hcz37_6 : wr.cell? ⟨gb288, 6, none⟩ = some (.int .i64 a0_6) := (blk_cell BK288.out 6).trans rfl
                          have hcz37_7 : wr.cell? ⟨gb288, 7, none⟩ = some (.int .i64 a0_7) := (blk_cell BK288.out 7).trans rfl
                          have hcz37_8 : wr.cell? ⟨gb288, 8, none⟩ = some (.int .i32 a0_8) := (blk_cell BK288.out 8).trans rfl
                          have hcz37_9 : wr.cell? ⟨gb288, 9, none⟩ = some (.string a0_9) := (blk_cell BK288.out 9).trans rfl
                          have hcz37_10 : wr.cell? ⟨gb288, 10, none⟩ = some (.int .i64 a0_10) := (blk_cell BK288.out 10).trans rfl
                          have hcz37_11 : wr.cell? ⟨gb288, 11, none⟩ = some (.slice A0_11 l0_11.length c0_11) := (blk_cell BK288.out 11).trans rfl
                          have hcz37_12 : wr.cell? ⟨gb288, 12, none⟩ = some (.int .u32 a0_12) := (blk_cell BK288.out 12).trans rfl
                          have hcz37_13 : wr.cell? ⟨gb288, 13, none⟩ = some (.bool a0_13) := (blk_cell BK288.out 13).trans rfl
                          have hcz37_14 : wr.cell? ⟨gb288, 14, none⟩ = some (.bool a0_14) := (blk_cell BK288.out 14).trans rfl
                          have hfz37_0 := blk_frozen BK288.out 0
                          have hfz37_1 := blk_frozen BK288.out 1
                          have hfz37_2 := blk_frozen BK288.out 2
                          have hfz37_3 := blk_frozen BK288.out 3
                          have hfz37_4 := blk_frozen BK288.out 4
                          have hfz37_5 := blk_frozen BK288.out 5
                          have hfz37_6 := blk_frozen BK288.out 6
                          have hfz37_7 := blk_frozen BK288.out 7
                          have hfz37_8 := blk_frozen BK288.out 8
                          have hfz37_9 := blk_frozen BK288.out 9
                          have hfz37_10 := blk_frozen BK288.out 10
                          have hfz37_11 := blk_frozen BK288.out 11
                          have hfz37_12 := blk_frozen BK288.out 12
                          have hfz37_13 := blk_frozen BK288.out 13
                          have hfz37_14 := blk_frozen BK288.out 14
                          go_wp2_with (first | (go_at_call 10; (with_reducible refine (span_Next.calls k2 a0_0 a0_1 a0_2 a0_3 a0_4 a0_5 a0_6 a0_7 a0_8 a0_9 a0_10 _ _ l0_11 a0_12 a0_13 a0_14 x4_2 t300 t301 _ ?side1 ?side2 A35.out).mono ?_); (case side1 => repeat (first | exact (Kd.C_below HR0_11.out HB.out) | (with_reducible refine Kd.C_alloc ?_ _) | (with_reducible refine Kd.C_drewN ?_ _) | (with_reducible refine Kd.C_drew ?_))); (case side2 => exact HC0_11.out); rintro e w38 ⟨rfl, hb⟩; have n0_ := Aside0.mk (Kd.R_below (by (with_reducible repeat (first | apply Kd.R_alloc | apply Kd.R_drewN | apply Kd.R_drew)); exact HO_3.out) hb); have n1_ := Aside0.mk (blk_below (g := gb288) (o := .cells #[.int .i64 a0_0, .int .i64 a0_1, .int .i64 a0_2, .string a0_3, .int .i64 a0_4, .int .i64 a0_5, .int .i64 a0_6, .int .i64 a0_7, .int .i32 a0_8, .string a0_9, .int .i64 a0_10, .slice A0_11 l0_11.length c0_11, .int .u32 a0_12, .bool a0_13, .bool a0_14] 27 (0, 0)) (by (with_reducible repeat (first | refine blk_drewN ?_ _ | refine blk_drew ?_ | refine blk_alloc ?_ _)); exact BK288.out) hb); have n2_ := Aside0.mk (below_step (by repeat (first | (with_reducible first | exact HB.out | apply below_alloc | apply pw_below_drewN | apply below_drew1 | refine below_set ?_ GE288.out) | exact HB.out)) hb); clear HO_3; clear BK288; clear HB; have HO_3 := n0_; have BK288 := n1_; have HB := n2_; clear n0_ n1_ n2_; (try clear hb); (try clear hb2); (try clear hk); (try clear hi)))
                          repeat (go_quiet (first | (go_at_call 10; (with_reducible refine (span_Next.calls k2 a0_0 a0_1 a0_2 a0_3 a0_4 a0_5 a0_6 a0_7 a0_8 a0_9 a0_10 _ _ l0_11 a0_12 a0_13 a0_14 x4_2 t300 t301 _ ?side1 ?side2 A35.out).mono ?_); (case side1 => repeat (first | exact (Kd.C_below HR0_11.out HB.out) | (with_reducible refine Kd.C_alloc ?_ _) | (with_reducible refine Kd.C_drewN ?_ _) | (with_reducible refine Kd.C_drew ?_))); (case side2 => exact HC0_11.out); rintro e w38 ⟨rfl, hb⟩; have n0_ := Aside0.mk (Kd.R_below (by (with_reducible repeat (first | apply Kd.R_alloc | apply Kd.R_drewN | apply Kd.R_drew)); exact HO_3.out) hb); have n1_ := Aside0.mk (blk_below (g := gb288) (o := .cells #[.int .i64 a0_0, .int .i64 a0_1, .int .i64 a0_2, .string a0_3, .int .i64 a0_4, .int .i64 a0_5, .int .i64 a0_6, .int .i64 a0_7, .int .i32 a0_8, .string a0_9, .int .i64 a0_10, .slice A0_11 l0_11.length c0_11, .int .u32 a0_12, .bool a0_13, .bool a0_14] 27 (0, 0)) (by (with_reducible repeat (first | refine blk_drewN ?_ _ | refine blk_drew ?_ | refine blk_alloc ?_ _)); exact BK288.out) hb); have n2_ := Aside0.mk (below_step (by repeat (first | (with_reducible first | exact HB.out | apply below_alloc | apply pw_below_drewN | apply below_drew1 | refine below_set ?_ GE288.out) | exact HB.out)) hb); clear HO_3; clear BK288; clear HB; have HO_3 := n0_; have BK288 := n1_; have HB := n2_; clear n0_ n1_ n2_; (try clear hb); (try clear hb2); (try clear hk); (try clear hi))); try go_wp2_with (first | (go_at_call 10; (with_reducible refine (span_Next.calls k2 a0_0 a0_1 a0_2 a0_3 a0_4 a0_5 a0_6 a0_7 a0_8 a0_9 a0_10 _ _ l0_11 a0_12 a0_13 a0_14 x4_2 t300 t301 _ ?side1 ?side2 A35.out).mono ?_); (case side1 => repeat (first | exact (Kd.C_below HR0_11.out HB.out) | (with_reducible refine Kd.C_alloc ?_ _) | (with_reducible refine Kd.C_drewN ?_ _) | (with_reducible refine Kd.C_drew ?_))); (case side2 => exact HC0_11.out); rintro e w38 ⟨rfl, hb⟩; have n0_ := Aside0.mk (Kd.R_below (by (with_reducible repeat (first | apply Kd.R_alloc | apply Kd.R_drewN | apply Kd.R_drew)); exact HO_3.out) hb); have n1_ := Aside0.mk (blk_below (g := gb288) (o := .cells #[.int .i64 a0_0, .int .i64 a0_1, .int .i64 a0_2, .string a0_3, .int .i64 a0_4, .int .i64 a0_5, .int .i64 a0_6, .int .i64 a0_7, .int .i32 a0_8, .string a0_9, .int .i64 a0_10, .slice A0_11 l0_11.length c0_11, .int .u32 a0_12, .bool a0_13, .bool a0_14] 27 (0, 0)) (by (with_reducible repeat (first | refine blk_drewN ?_ _ | refine blk_drew ?_ | refine blk_alloc ?_ _)); exact BK288.out) hb); have n2_ := Aside0.mk (below_step (by repeat (first | (with_reducible first | exact HB.out | apply below_alloc | apply pw_below_drewN | apply below_drew1 | refine below_set ?_ GE288.out) | exact HB.out)) hb); clear HO_3; clear BK288; clear HB; have HO_3 := n0_; have BK288 := n1_; have HB := n2_; clear n0_ n1_ n2_; (try clear hb); (try clear hb2); (try clear hk); (try clear hi))))
                          go_roundg k2
                          case measure => have := HJ8.out; have := HK2.out; omega
                          case rel => exact ⟨(t300), (t301), (wrap64 (x6_2 + 1)), (by first | rfl | (simp; done) | (simp [*]; done)), (by first | rfl | (simp; done) | (simp [*]; done)), (by first | rfl | (simp; done) | (simp [*]; done)), H', ⟨by have := HJ8.out; have := HK2.out; omega⟩, ⟨by (with_reducible repeat (first | apply Kd.R_alloc | apply Kd.R_drewN | apply Kd.R_drew)); exact HO_3.out⟩, ⟨by (with_reducible repeat (first | refine blk_drewN ?_ _ | refine blk_drew ?_ | refine blk_alloc ?_ _)); exact BK288.out⟩, ⟨by repeat (first | (with_reducible first | exact HB.out | apply below_alloc | apply pw_below_drewN | apply below_drew1 | refine below_set ?_ GE288.out) | exact HB.out)⟩⟩
                      · rw [if_neg c24] at H
                        have c24b0 : (x4_2 == (rd t290 x6_2)) = false := beq_eq_false_iff_ne.mpr c24
                        have c24b1 : (x4_2 != (rd t290 x6_2)) = true := bne_iff_ne.mpr c24
                        obtain rfl := Option.some.inj H
                        obtain ⟨Ao39, co39, eo39⟩ := Kd.R_slice HO_3.out
                        subst eo39
                        have p295 : 0 ≤ (x6_2 : Int) := of_decide_eq_true (by first | (with_reducible assumption) | assumption)
                        have q295 : x6_2 < (t290.length : Int) := of_decide_eq_true (by first | (with_reducible assumption) | assumption)
                        obtain ⟨ad295, e295, hx295_0⟩ := Kd.at_int (Kd.R_reads' HO_3.out).2.2 x6_2 p295 q295
                        cases e295
                        replace p295 := eq_true p295
                        replace q295 := eq_true q295
                        go_wp2
                        repeat (go_quiet (fail); try go_wp2)
                        go_ret
                        exact ⟨by first | rfl | (simp [errW_none, errW_some] <;> rfl) | (simp [*, errW_none, errW_some] <;> rfl), by repeat (first | (with_reducible first | exact HB.out | apply below_alloc | apply pw_below_drewN | apply below_drew1 | refine below_set ?_ GE288.out) | exact HB.out)⟩
                    · rw [if_neg c23] at H
                      exact absurd H (by simp)
                  · replace c22 := Bool.eq_false_iff.mpr c22
                    subst c22
                    have H1 : (some false) = some r := by rw [if_neg (show ¬ (false = true) by decide)] at H; exact H
                    clear H
                    have H := H1
                    clear H1
                    obtain rfl := Option.some.inj H
                    obtain ⟨Ao40, co40, eo40⟩ := Kd.R_slice HO_3.out
                    subst eo40
                    go_wp2
                    repeat (go_quiet (fail); try go_wp2)
                    go_ret
                    exact ⟨by first | rfl | (simp [errW_none, errW_some] <;> rfl) | (simp [*, errW_none, errW_some] <;> rfl), by repeat (first | (with_reducible first | exact HB.out | apply below_alloc | apply pw_below_drewN | apply below_drew1 | refine below_set ?_ GE288.out) | exact HB.out)⟩
                · rw [if_neg c21] at H
                  have c21b0 : decide (x6_2 < (t290.length : Int)) = false := decide_eq_false c21
                  clear c21
                  by_cases c41 : x5_2 = true
                  · subst c41
                    have H1 : (some false) = some r := by rw [if_pos rfl] at H; exact H
                    clear H
                    have H := H1
                    clear H1
                    obtain rfl := Option.some.inj H
                    obtain ⟨Ao42, co42, eo42⟩ := Kd.R_slice HO_3.out
                    subst eo42
                    go_wp2
                    repeat (go_quiet (fail); try go_wp2)
                    go_ret
                    exact ⟨by first | rfl | (simp [errW_none, errW_some] <;> rfl) | (simp [*, errW_none, errW_some] <;> rfl), by repeat (first | (with_reducible first | exact HB.out | apply below_alloc | apply pw_below_drewN | apply below_drew1 | refine below_set ?_ GE288.out) | exact HB.out)⟩
                  · replace c41 := Bool.eq_false_iff.mpr c41
                    subst c41
                    have H1 : (if 0 ≤ (wrap64 ((t290.length : Int) - 1)) then (if (wrap64 ((t290.length : Int) - 1)) < (t290.length : Int) then (some (x4_2 == (rd t290 (wrap64 ((t290.length : Int) - 1))))) else (none)) else (none)) = some r := by rw [if_neg (show ¬ (false = true) by decide)] at H; exact H
                    clear H
                    have H := H1
                    clear H1
                    obtain ⟨ji43, hji43⟩ : ∃ j_ : Int, (wrap64 ((t290.length : Int) - 1)) = j_ := ⟨_, rfl⟩
                    replace H : (if 0 ≤ (ji43) then (if (ji43) < (t290.length : Int) then (some (x4_2 == (rd t290 (ji43)))) else (none)) else (none)) = some r := by first | (rw [hji43] at H; exact H) | (simp only [hji43] at H ⊢; exact H)
                    have hji43w : (IntKind.i64.wrap ((t290.length : Int) - 1)) = ji43 := (i64_w _).trans hji43
                    by_cases c44 : 0 ≤ (ji43)
                    · rw [if_pos c44] at H
                      have c44b0 : decide (0 ≤ (ji43)) = true := decide_eq_true c44
                      clear c44
                      by_cases c45 : (ji43) < (t290.length : Int)
                      · rw [if_pos c45] at H
                        have c45b0 : decide ((ji43) < (t290.length : Int)) = true := decide_eq_true c45
                        clear c45
                        obtain rfl := Option.some.inj H
                        obtain ⟨Ao46, co46, eo46⟩ := Kd.R_slice HO_3.out
                        subst eo46
                        have p302 : 0 ≤ ((ji43) : Int) := of_decide_eq_true (by first | (with_reducible assumption) | assumption)
                        have q302 : (ji43) < (t290.length : Int) := of_decide_eq_true (by first | (with_reducible assumption) | assumption)
                        obtain ⟨ad302, e302, hx302_0⟩ := Kd.at_int (Kd.R_reads' HO_3.out).2.2 (ji43) p302 q302
                        cases e302
                        replace p302 := eq_true p302
                        replace q302 := eq_true q302
                        go_wp2
                        repeat (go_quiet (fail); try go_wp2)
                        go_ret
                        exact ⟨by first | rfl | (simp [errW_none, errW_some] <;> rfl) | (simp only [← hji43]; first | rfl | (simp [errW_none, errW_some] <;> rfl)) | (simp [*, errW_none, errW_some] <;> rfl), by repeat (first | (with_reducible first | exact HB.out | apply below_alloc | apply pw_below_drewN | apply below_drew1 | refine below_set ?_ GE288.out) | exact HB.out)⟩
                      · rw [if_neg c45] at H
                        exact absurd H (by simp)
                    · rw [if_neg c44] at H
                      exact absurd H (by simp)
  · replace c3 := Bool.eq_false_iff.mpr c3
    subst c3
    have H1 : (some false) = some r := by rw [if_neg (show ¬ (false = true) by decide)] at H; exact H
    clear H
    have H := H1
    clear H1
    obtain rfl := Option.some.inj H
    go_enter Try.func6, Try.ntmps6
    go_wp2_with (first | ((with_reducible refine gate_dst (N := 1) rfl ?_); (try (refine gate_guard (by rfl) ?_; dsimp only)); refine box_event ?hg (N := 1) ?hd (cs := #[.int .i64 a0_0, .int .i64 a0_1, .int .i64 a0_2, .string a0_3, .int .i64 a0_4, .int .i64 a0_5, .int .i64 a0_6, .int .i64 a0_7, .int .i32 a0_8, .string a0_9, .int .i64 a0_10, .slice A0_11 l0_11.length c0_11, .int .u32 a0_12, .bool a0_13, .bool a0_14]) (t := 27) ?hr ?_; (case hd => rfl); (case hg => rfl); (case hr => first | (go_simp; done) | (go_simp; rfl)); intro gb288 hg w47 hbox hb; have n0_ := Aside0.mk (below_step (by repeat (first | (with_reducible first | exact HB.out | apply below_alloc | apply pw_below_drewN | apply below_drew1) | exact HB.out)) hb); have n1_ := Aside0.mk (hbox); have n2_ := Aside0.mk ((by rw [hg]; exact (below_size (by repeat (first | (with_reducible first | exact HB.out | apply below_alloc | apply pw_below_drewN | apply below_drew1) | exact HB.out))) : w.heap.size ≤ gb288)); have n3_ := Aside0.mk ((by rw [hg]; exact (below_size (by repeat (first | (with_reducible first | exact HB.out | apply below_alloc | apply pw_below_drewN | apply below_drew1) | exact HB.out))) : w.heap.size ≤ gb288)); clear HB; have HB := n0_; have BK288 := n1_; have GW288 := n2_; have GE288 := n3_; clear n0_ n1_ n2_ n3_; clear hb hbox hg) | (go_at_call 7; (with_reducible refine (typecaselaw18_awake.calls k  false _ A2.out).mono ?_); rintro e w48 ⟨rfl, hb⟩; have n0_ := Aside0.mk (blk_below (g := gb288) (o := .cells #[.int .i64 a0_0, .int .i64 a0_1, .int .i64 a0_2, .string a0_3, .int .i64 a0_4, .int .i64 a0_5, .int .i64 a0_6, .int .i64 a0_7, .int .i32 a0_8, .string a0_9, .int .i64 a0_10, .slice A0_11 l0_11.length c0_11, .int .u32 a0_12, .bool a0_13, .bool a0_14] 27 (0, 0)) (by (with_reducible repeat (first | refine blk_drewN ?_ _ | refine blk_drew ?_ | refine blk_alloc ?_ _)); exact BK288.out) hb); have n1_ := Aside0.mk (below_step (by repeat (first | (with_reducible first | exact HB.out | apply below_alloc | apply pw_below_drewN | apply below_drew1 | refine below_set ?_ GE288.out) | exact HB.out)) hb); clear BK288; clear HB; have BK288 := n0_; have HB := n1_; clear n0_ n1_; (try clear hb); (try clear hb2); (try clear hk); (try clear hi)))
    repeat (go_quiet (first | ((with_reducible refine gate_dst (N := 1) rfl ?_); (try (refine gate_guard (by rfl) ?_; dsimp only)); refine box_event ?hg (N := 1) ?hd (cs := #[.int .i64 a0_0, .int .i64 a0_1, .int .i64 a0_2, .string a0_3, .int .i64 a0_4, .int .i64 a0_5, .int .i64 a0_6, .int .i64 a0_7, .int .i32 a0_8, .string a0_9, .int .i64 a0_10, .slice A0_11 l0_11.length c0_11, .int .u32 a0_12, .bool a0_13, .bool a0_14]) (t := 27) ?hr ?_; (case hd => rfl); (case hg => rfl); (case hr => first | (go_simp; done) | (go_simp; rfl)); intro gb288 hg w47 hbox hb; have n0_ := Aside0.mk (below_step (by repeat (first | (with_reducible first | exact HB.out | apply below_alloc | apply pw_below_drewN | apply below_drew1) | exact HB.out)) hb); have n1_ := Aside0.mk (hbox); have n2_ := Aside0.mk ((by rw [hg]; exact (below_size (by repeat (first | (with_reducible first | exact HB.out | apply below_alloc | apply pw_below_drewN | apply below_drew1) | exact HB.out))) : w.heap.size ≤ gb288)); have n3_ := Aside0.mk ((by rw [hg]; exact (below_size (by repeat (first | (with_reducible first | exact HB.out | apply below_alloc | apply pw_below_drewN | apply below_drew1) | exact HB.out))) : w.heap.size ≤ gb288)); clear HB; have HB := n0_; have BK288 := n1_; have GW288 := n2_; have GE288 := n3_; clear n0_ n1_ n2_ n3_; clear hb hbox hg) | (go_at_call 7; (with_reducible refine (typecaselaw18_awake.calls k  false _ A2.out).mono ?_); rintro e w48 ⟨rfl, hb⟩; have n0_ := Aside0.mk (blk_below (g := gb288) (o := .cells #[.int .i64 a0_0, .int .i64 a0_1, .int .i64 a0_2, .string a0_3, .int .i64 a0_4, .int .i64 a0_5, .int .i64 a0_6, .int .i64 a0_7, .int .i32 a0_8, .string a0_9, .int .i64 a0_10, .slice A0_11 l0_11.length c0_11, .int .u32 a0_12, .bool a0_13, .bool a0_14] 27 (0, 0)) (by (with_reducible repeat (first | refine blk_drewN ?_ _ | refine blk_drew ?_ | refine blk_alloc ?_ _)); exact BK288.out) hb); have n1_ := Aside0.mk (below_step (by repeat (first | (with_reducible first | exact HB.out | apply below_alloc | apply pw_below_drewN | apply below_drew1 | refine below_set ?_ GE288.out) | exact HB.out)) hb); clear BK288; clear HB; have BK288 := n0_; have HB := n1_; clear n0_ n1_; (try clear hb); (try clear hb2); (try clear hk); (try clear hi))); try go_wp2_with (first | ((with_reducible refine gate_dst (N := 1) rfl ?_); (try (refine gate_guard (by rfl) ?_; dsimp only)); refine box_event ?hg (N := 1) ?hd (cs := #[.int .i64 a0_0, .int .i64 a0_1, .int .i64 a0_2, .string a0_3, .int .i64 a0_4, .int .i64 a0_5, .int .i64 a0_6, .int .i64 a0_7, .int .i32 a0_8, .string a0_9, .int .i64 a0_10, .slice A0_11 l0_11.length c0_11, .int .u32 a0_12, .bool a0_13, .bool a0_14]) (t := 27) ?hr ?_; (case hd => rfl); (case hg => rfl); (case hr => first | (go_simp; done) | (go_simp; rfl)); intro gb288 hg w47 hbox hb; have n0_ := Aside0.mk (below_step (by repeat (first | (with_reducible first | exact HB.out | apply below_alloc | apply pw_below_drewN | apply below_drew1) | exact HB.out)) hb); have n1_ := Aside0.mk (hbox); have n2_ := Aside0.mk ((by rw [hg]; exact (below_size (by repeat (first | (with_reducible first | exact HB.out | apply below_alloc | apply pw_below_drewN | apply below_drew1) | exact HB.out))) : w.heap.size ≤ gb288)); have n3_ := Aside0.mk ((by rw [hg]; exact (below_size (by repeat (first | (with_reducible first | exact HB.out | apply below_alloc | apply pw_below_drewN | apply below_drew1) | exact HB.out))) : w.heap.size ≤ gb288)); clear HB; have HB := n0_; have BK288 := n1_; have GW288 := n2_; have GE288 := n3_; clear n0_ n1_ n2_ n3_; clear hb hbox hg) | (go_at_call 7; (with_reducible refine (typecaselaw18_awake.calls k  false _ A2.out).mono ?_); rintro e w48 ⟨rfl, hb⟩; have n0_ := Aside0.mk (blk_below (g := gb288) (o := .cells #[.int .i64 a0_0, .int .i64 a0_1, .int .i64 a0_2, .string a0_3, .int .i64 a0_4, .int .i64 a0_5, .int .i64 a0_6, .int .i64 a0_7, .int .i32 a0_8, .string a0_9, .int .i64 a0_10, .slice A0_11 l0_11.length c0_11, .int .u32 a0_12, .bool a0_13, .bool a0_14] 27 (0, 0)) (by (with_reducible repeat (first | refine blk_drewN ?_ _ | refine blk_drew ?_ | refine blk_alloc ?_ _)); exact BK288.out) hb); have n1_ := Aside0.mk (below_step (by repeat (first | (with_reducible first | exact HB.out | apply below_alloc | apply pw_below_drewN | apply below_drew1 | refine below_set ?_ GE288.out) | exact HB.out)) hb); clear BK288; clear HB; have BK288 := n0_; have HB := n1_; clear n0_ n1_; (try clear hb); (try clear hb2); (try clear hk); (try clear hi))))
    go_ret
    exact ⟨by first | rfl | (simp [errW_none, errW_some] <;> rfl) | (simp [*, errW_none, errW_some] <;> rfl), by repeat (first | (with_reducible first | exact HB.out | apply below_alloc | apply pw_below_drewN | apply below_drew1 | refine below_set ?_ GE288.out) | exact HB.out)⟩

end Go.Proofs.Ytbpihhggeakhoaa.PTwo
