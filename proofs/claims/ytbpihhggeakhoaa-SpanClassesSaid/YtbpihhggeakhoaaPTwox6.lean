-- Written by wip/tools/fprint.py: the kit's print.py, run with functions of this session's own put in. Not trusted: Lean checks it.
import Derived.Test.YtbpihhggeakhoaaPTwox0
import Derived.Test.YtbpihhggeakhoaaPTwox4
import Derived.Test.YtbpihhggeakhoaaPTwox5
namespace Go.Proofs.Ytbpihhggeakhoaa.PTwo
open Go.RowKit Go.Proofs.YtbpihhggeakhoaaW.PrintWords Go.Proofs.YtbpihhggeakhoaaW.PrintLast Go.Proofs.YtbpihhggeakhoaaW.PrintMore
attribute [local go_sem] max2_int min2_int max_two min_two max_three min_three max_four min_four   -- for this text's walks alone
set_option linter.unusedVariables false
set_option linter.unusedSimpArgs false

/-! ### span_Next: function 10 -/
def span_Next.f (k : Nat) (a0_0 : Int) (a0_1 : Int) (a0_2 : Int) (a0_3 : ByteArray) (a0_4 : Int) (a0_5 : Int) (a0_6 : Int) (a0_7 : Int) (a0_8 : Int) (a0_9 : ByteArray) (a0_10 : Int) (l0_11 : List (S86)) (a0_12 : Int) (a0_13 : Bool) (a0_14 : Bool) (a1 : Int) : Option (Int × Bool) := (span_Classes.f k a0_0 a0_1 a0_2 a0_3 a0_4 a0_5 a0_6 a0_7 a0_8 a0_9 a0_10 l0_11 a0_12 a0_13 a0_14).bind fun t212 => ((span_least_int.f k t212 a1).bind fun bt215 => (some (bt215.1, bt215.2)))
theorem span_Next.mono : ∀ a0 a1 a2 a3 a4 a5 a6 a7 a8 a9 a10 a11 a12 a13 a14 a15 k, LeO (span_Next.f k a0 a1 a2 a3 a4 a5 a6 a7 a8 a9 a10 a11 a12 a13 a14 a15) (span_Next.f (k + 1) a0 a1 a2 a3 a4 a5 a6 a7 a8 a9 a10 a11 a12 a13 a14 a15) := by
  intro a0 a1 a2 a3 a4 a5 a6 a7 a8 a9 a10 a11 a12 a13 a14 a15 k
  unfold span_Next.f
  repeat' first
      | (with_reducible exact span_Classes.mono _ _ _ _ _ _ _ _ _ _ _ _ _ _ _ _)
      | (with_reducible exact span_least_int.mono _ _ _)
      | (with_reducible exact LeO.refl _)
      | (with_reducible exact LeO.none _)
      | (with_reducible refine LeO.ite ?_ ?_)
      | (with_reducible refine LeO.bind ?_ (fun _ => ?_))
      | exact span_Classes.mono _ _ _ _ _ _ _ _ _ _ _ _ _ _ _ _
      | exact span_least_int.mono _ _ _
      | exact LeO.none _
      | refine LeO.ite ?_ ?_
      | refine LeO.bind ?_ (fun _ => ?_)
set_option maxHeartbeats 8000000 in
set_option maxRecDepth 100000 in
theorem span_Next.calls (k : Nat) (a0_0 : Int) (a0_1 : Int) (a0_2 : Int) (a0_3 : ByteArray) (a0_4 : Int) (a0_5 : Int) (a0_6 : Int) (a0_7 : Int) (a0_8 : Int) (a0_9 : ByteArray) (a0_10 : Int) (A0_11 : Option Addr) (c0_11 : Nat) (l0_11 : List (S86)) (a0_12 : Int) (a0_13 : Bool) (a0_14 : Bool) (a1 : Int) (r1 : Int) (r2 : Bool) (w : World) (hr0_11 : Kd.C k86 w A0_11 l0_11.length l0_11) (hc0_11 : l0_11.length ≤ c0_11) (h : span_Next.f k a0_0 a0_1 a0_2 a0_3 a0_4 a0_5 a0_6 a0_7 a0_8 a0_9 a0_10 l0_11 a0_12 a0_13 a0_14 a1 = some (r1, r2)) :
    Calls Try.prog 10 #[.agg #[.int .i64 a0_0, .int .i64 a0_1, .int .i64 a0_2, .string a0_3, .int .i64 a0_4, .int .i64 a0_5, .int .i64 a0_6, .int .i64 a0_7, .int .i32 a0_8, .string a0_9, .int .i64 a0_10, .slice A0_11 l0_11.length c0_11, .int .u32 a0_12, .bool a0_13, .bool a0_14], .int .i64 a1] w fun e w' => e = .returned (.tuple #[.int .i64 r1, .bool r2]) ∧ Below w.heap.size w w' := by
  have hu27 := Try.underlying27
  have HR0_11 := Aside0.mk hr0_11
  have HC0_11 := Aside0.mk hc0_11
  clear hr0_11 hc0_11
  have HB := Aside0.mk (Below.refl w.heap.size w)
  have H : ((span_Classes.f k a0_0 a0_1 a0_2 a0_3 a0_4 a0_5 a0_6 a0_7 a0_8 a0_9 a0_10 l0_11 a0_12 a0_13 a0_14).bind fun t212 => ((span_least_int.f k t212 a1).bind fun bt215 => (some (bt215.1, bt215.2)))) = some (r1, r2) := h
  clear h
  replace H := Option.bind_eq_some_iff.mp H
  obtain ⟨t212, A30, H⟩ := H
  replace H : ((span_least_int.f k t212 a1).bind fun bt215 => (some (bt215.1, bt215.2))) = some (r1, r2) := H
  have A3 := Aside0.mk A30
  clear A30
  replace H := Option.bind_eq_some_iff.mp H
  obtain ⟨⟨t215, t216⟩, A40, H⟩ := H
  replace H : (some (t215, t216)) = some (r1, r2) := H
  have A4 := Aside0.mk A40
  clear A40
  simp only [Option.some.injEq, Prod.mk.injEq] at H
  obtain ⟨rfl, rfl⟩ := H
  go_enter Try.func10, Try.ntmps10
  go_wp2_with (first | ((with_reducible refine gate_dst (N := 2) rfl ?_); refine box_event ?hg (N := 2) ?hd (cs := #[.int .i64 a0_0, .int .i64 a0_1, .int .i64 a0_2, .string a0_3, .int .i64 a0_4, .int .i64 a0_5, .int .i64 a0_6, .int .i64 a0_7, .int .i32 a0_8, .string a0_9, .int .i64 a0_10, .slice A0_11 l0_11.length c0_11, .int .u32 a0_12, .bool a0_13, .bool a0_14]) (t := 27) ?hr ?_; (case hd => rfl); (case hg => rfl); (case hr => first | (go_simp; done) | (go_simp; rfl)); intro gb211 hg w5 hbox hb; have n0_ := Aside0.mk (below_step (by repeat (first | (with_reducible first | exact HB.out | apply below_alloc | apply pw_below_drewN | apply below_drew1) | exact HB.out)) hb); have n1_ := Aside0.mk (hbox); have n2_ := Aside0.mk ((by rw [hg]; exact (below_size (by repeat (first | (with_reducible first | exact HB.out | apply below_alloc | apply pw_below_drewN | apply below_drew1) | exact HB.out))) : w.heap.size ≤ gb211)); have n3_ := Aside0.mk ((by rw [hg]; exact (below_size (by repeat (first | (with_reducible first | exact HB.out | apply below_alloc | apply pw_below_drewN | apply below_drew1) | exact HB.out))) : w.heap.size ≤ gb211)); clear HB; have HB := n0_; have BK211 := n1_; have GW211 := n2_; have GE211 := n3_; clear n0_ n1_ n2_ n3_; clear hb hbox hg; have hcz6_0 : w5.cell? ⟨gb211, 0, none⟩ = some (.int .i64 a0_0) := (blk_cell BK211.out 0).trans rfl; have hcz6_1 : w5.cell? ⟨gb211, 1, none⟩ = some (.int .i64 a0_1) := (blk_cell BK211.out 1).trans rfl; have hcz6_2 : w5.cell? ⟨gb211, 2, none⟩ = some (.int .i64 a0_2) := (blk_cell BK211.out 2).trans rfl; have hcz6_3 : w5.cell? ⟨gb211, 3, none⟩ = some (.string a0_3) := (blk_cell BK211.out 3).trans rfl; have hcz6_4 : w5.cell? ⟨gb211, 4, none⟩ = some (.int .i64 a0_4) := (blk_cell BK211.out 4).trans rfl; have hcz6_5 : w5.cell? ⟨gb211, 5, none⟩ = some (.int .i64 a0_5) := (blk_cell BK211.out 5).trans rfl; have hcz6_6 : w5.cell? ⟨gb211, 6, none⟩ = some (.int .i64 a0_6) := (blk_cell BK211.out 6).trans rfl; have hcz6_7 : w5.cell? ⟨gb211, 7, none⟩ = some (.int .i64 a0_7) := (blk_cell BK211.out 7).trans rfl; have hcz6_8 : w5.cell? ⟨gb211, 8, none⟩ = some (.int .i32 a0_8) := (blk_cell BK211.out 8).trans rfl; have hcz6_9 : w5.cell? ⟨gb211, 9, none⟩ = some (.string a0_9) := (blk_cell BK211.out 9).trans rfl; have hcz6_10 : w5.cell? ⟨gb211, 10, none⟩ = some (.int .i64 a0_10) := (blk_cell BK211.out 10).trans rfl; have hcz6_11 : w5.cell? ⟨gb211, 11, none⟩ = some (.slice A0_11 l0_11.length c0_11) := (blk_cell BK211.out 11).trans rfl; have hcz6_12 : w5.cell? ⟨gb211, 12, none⟩ = some (.int .u32 a0_12) := (blk_cell BK211.out 12).trans rfl; have hcz6_13 : w5.cell? ⟨gb211, 13, none⟩ = some (.bool a0_13) := (blk_cell BK211.out 13).trans rfl; have hcz6_14 : w5.cell? ⟨gb211, 14, none⟩ = some (.bool a0_14) := (blk_cell BK211.out 14).trans rfl; have hfz6_0 := blk_frozen BK211.out 0; have hfz6_1 := blk_frozen BK211.out 1; have hfz6_2 := blk_frozen BK211.out 2; have hfz6_3 := blk_frozen BK211.out 3; have hfz6_4 := blk_frozen BK211.out 4; have hfz6_5 := blk_frozen BK211.out 5; have hfz6_6 := blk_frozen BK211.out 6; have hfz6_7 := blk_frozen BK211.out 7; have hfz6_8 := blk_frozen BK211.out 8; have hfz6_9 := blk_frozen BK211.out 9; have hfz6_10 := blk_frozen BK211.out 10; have hfz6_11 := blk_frozen BK211.out 11; have hfz6_12 := blk_frozen BK211.out 12; have hfz6_13 := blk_frozen BK211.out 13; have hfz6_14 := blk_frozen BK211.out 14) | ((with_reducible refine gate_callee (f := 13) rfl ?_); refine goesL_ (some 7) rfl rfl Try.func13 (by kernel_rfl) rfl #[.agg #[.int .i64 a0_0, .int .i64 a0_1, .int .i64 a0_2, .string a0_3, .int .i64 a0_4, .int .i64 a0_5, .int .i64 a0_6, .int .i64 a0_7, .int .i32 a0_8, .string a0_9, .int .i64 a0_10, .slice A0_11 l0_11.length c0_11, .int .u32 a0_12, .bool a0_13, .bool a0_14]] rfl (by (try simp only [List.map_toArray, List.map_cons, List.map_nil]); first | done | rfl | (simp only [List.length_drop, List.length_take]; rfl)) ?_; (with_reducible refine (span_Classes.calls k a0_0 a0_1 a0_2 a0_3 a0_4 a0_5 a0_6 a0_7 a0_8 a0_9 a0_10 _ _ l0_11 a0_12 a0_13 a0_14 t212 _ ?side1 ?side2 A3.out).mono ?_); (case side1 => repeat (first | exact (Kd.C_below HR0_11.out HB.out) | (with_reducible refine Kd.C_alloc ?_ _) | (with_reducible refine Kd.C_drewN ?_ _) | (with_reducible refine Kd.C_drew ?_))); (case side2 => exact HC0_11.out); rintro e w7 ⟨v213, rfl, ho0, hb⟩; refine ⟨_, rfl, ?_⟩; have n0_ := Aside0.mk (Kd.R_lower ho0 (below_size (by repeat (first | (with_reducible first | exact HB.out | apply below_alloc | apply pw_below_drewN | apply below_drew1 | refine below_set ?_ GE211.out) | exact HB.out)))); have n1_ := Aside0.mk (blk_below (g := gb211) (o := .cells #[.int .i64 a0_0, .int .i64 a0_1, .int .i64 a0_2, .string a0_3, .int .i64 a0_4, .int .i64 a0_5, .int .i64 a0_6, .int .i64 a0_7, .int .i32 a0_8, .string a0_9, .int .i64 a0_10, .slice A0_11 l0_11.length c0_11, .int .u32 a0_12, .bool a0_13, .bool a0_14] 27 (0, 0)) (by (with_reducible repeat (first | refine blk_drewN ?_ _ | refine blk_drew ?_ | refine blk_alloc ?_ _)); exact BK211.out) hb); have n2_ := Aside0.mk (below_step (by repeat (first | (with_reducible first | exact HB.out | apply below_alloc | apply pw_below_drewN | apply below_drew1 | refine below_set ?_ GE211.out) | exact HB.out)) hb); clear BK211; clear HB; have HO214 := n0_; have BK211 := n1_; have HB := n2_; clear n0_ n1_ n2_; (try clear hb); (try clear hb2); (try clear hk); (try clear hi); (try clear ho0); obtain ⟨Ao8, co8, eo8⟩ := Kd.R_slice HO214.out; subst eo8) | ((with_reducible refine gate_callee (f := 17) rfl ?_); refine goesL_ (some 9) rfl rfl Try.func17 (by kernel_rfl) rfl #[.slice Ao8 t212.length co8, .int .i64 a1] rfl (by (try simp only [List.map_toArray, List.map_cons, List.map_nil]); first | done | rfl | (simp only [List.length_drop, List.length_take]; rfl)) ?_; (with_reducible refine (span_least_int.calls k _ _ t212 a1 t215 t216 _ ?side1 ?side2 A4.out).mono ?_); (case side1 => repeat (first | exact (Kd.R_reads' HO214.out).2.2 | (with_reducible refine Kd.C_alloc ?_ _) | (with_reducible refine Kd.C_drewN ?_ _) | (with_reducible refine Kd.C_drew ?_))); (case side2 => exact (Kd.R_reads' HO214.out).2.1); rintro e w' ⟨rfl, ⟨nd, rfl⟩⟩; refine ⟨_, rfl, ?_⟩))
  go_ret2
  exact ⟨by first | rfl | (simp [errW_none, errW_some] <;> rfl) | (simp [*, errW_none, errW_some] <;> rfl), by repeat (first | (with_reducible first | exact HB.out | apply below_alloc | apply pw_below_drewN | apply below_drew1 | refine below_set ?_ GE211.out) | exact HB.out)⟩

end Go.Proofs.Ytbpihhggeakhoaa.PTwo
