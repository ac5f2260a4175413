-- Written by wip/tools/fprint.py: the kit's print.py, run with functions of this session's own put in. Not trusted: Lean checks it.
import Derived.Test.YtbpihhggeakhoaaPTwox0
namespace Go.Proofs.Ytbpihhggeakhoaa.PTwo
open Go.RowKit Go.Proofs.YtbpihhggeakhoaaW.PrintWords Go.Proofs.YtbpihhggeakhoaaW.PrintLast Go.Proofs.YtbpihhggeakhoaaW.PrintMore
attribute [local go_sem] max2_int min2_int max_two min_two max_three min_three max_four min_four   -- for this text's walks alone
set_option linter.unusedVariables false
set_option linter.unusedSimpArgs false

/-! ### typecaseref18_Classes: function 14 -/
mutual
def typecaseref18_Classes.j0 : Nat → Bool → Int → Int → Int → ByteArray → Int → Int → Int → Int → Int → ByteArray → Int → List (S86) → Int → Bool → Bool → Option (List Int)
  | 0, _, _, _, _, _, _, _, _, _, _, _, _, _, _, _, _ => none
  | k + 1, x3, x218000, x218001, x218002, x218003, x218004, x218005, x218006, x218007, x218008, x218009, x218010, x218011, x218012, x218013, x218014 => if x218013 = true then (if x3 = true then (some (([2, 4, 8] : List Int))) else (some (([4, 8] : List Int)))) else (some (([4] : List Int)))
def typecaseref18_Classes.j1 : Nat → Int → Bool → Int → Int → Int → ByteArray → Int → Int → Int → Int → Int → ByteArray → Int → List (S86) → Int → Bool → Bool → Option (List Int)
  | 0, _, _, _, _, _, _, _, _, _, _, _, _, _, _, _, _, _ => none
  | k + 1, x7, x66, x218000, x218001, x218002, x218003, x218004, x218005, x218006, x218007, x218008, x218009, x218010, x218011, x218012, x218013, x218014 => if x66 = true then (if x218010 = 2 then (some (([2] : List Int))) else (some (([4] : List Int)))) else (if x7 = 8 then (if x218010 = 1 then (some (([x218010] : List Int))) else (if x218010 = 2 then (some (([x218010] : List Int))) else (some (([4] : List Int))))) else (if x7 = 9 then (some (([(x218003.size : Int)] : List Int))) else (if x7 = 7 then (some (([8] : List Int))) else (some (([0] : List Int))))))
end
def typecaseref18_Classes.f (k : Nat) (a0_0 : Int) (a0_1 : Int) (a0_2 : Int) (a0_3 : ByteArray) (a0_4 : Int) (a0_5 : Int) (a0_6 : Int) (a0_7 : Int) (a0_8 : Int) (a0_9 : ByteArray) (a0_10 : Int) (l0_11 : List (S86)) (a0_12 : Int) (a0_13 : Bool) (a0_14 : Bool) : Option (List Int) := if a0_0 = 4 then (if a0_14 = true then (if a0_4 = 5 then (if a0_7 = 0 then (if a0_6 ≥ 8 then (typecaseref18_Classes.j0 k (decide (a0_6 ≤ 15)) a0_0 a0_1 a0_2 a0_3 a0_4 a0_5 a0_6 a0_7 a0_8 a0_9 a0_10 l0_11 a0_12 a0_13 a0_14) else (typecaseref18_Classes.j0 k false a0_0 a0_1 a0_2 a0_3 a0_4 a0_5 a0_6 a0_7 a0_8 a0_9 a0_10 l0_11 a0_12 a0_13 a0_14)) else (typecaseref18_Classes.j0 k false a0_0 a0_1 a0_2 a0_3 a0_4 a0_5 a0_6 a0_7 a0_8 a0_9 a0_10 l0_11 a0_12 a0_13 a0_14)) else (if a0_4 = 6 then (if a0_7 = 0 then (if a0_6 ≥ 8 then (typecaseref18_Classes.j0 k (decide (a0_6 ≤ 15)) a0_0 a0_1 a0_2 a0_3 a0_4 a0_5 a0_6 a0_7 a0_8 a0_9 a0_10 l0_11 a0_12 a0_13 a0_14) else (typecaseref18_Classes.j0 k false a0_0 a0_1 a0_2 a0_3 a0_4 a0_5 a0_6 a0_7 a0_8 a0_9 a0_10 l0_11 a0_12 a0_13 a0_14)) else (typecaseref18_Classes.j0 k false a0_0 a0_1 a0_2 a0_3 a0_4 a0_5 a0_6 a0_7 a0_8 a0_9 a0_10 l0_11 a0_12 a0_13 a0_14)) else (typecaseref18_Classes.j0 k false a0_0 a0_1 a0_2 a0_3 a0_4 a0_5 a0_6 a0_7 a0_8 a0_9 a0_10 l0_11 a0_12 a0_13 a0_14))) else (typecaseref18_Classes.j0 k false a0_0 a0_1 a0_2 a0_3 a0_4 a0_5 a0_6 a0_7 a0_8 a0_9 a0_10 l0_11 a0_12 a0_13 a0_14)) else (if a0_0 = 5 then (if a0_13 = true then (if a0_14 = true then (some (([2, 4] : List Int))) else (some (([4] : List Int)))) else (some (([4] : List Int)))) else (if a0_0 = 6 then (if a0_13 = true then (if a0_14 = true then (some (([2, 4, 8] : List Int))) else (some (([4, 8] : List Int)))) else (some (([8] : List Int)))) else (if a0_0 = 2 then (typecaseref18_Classes.j1 k a0_0 (a0_0 == 2) a0_0 a0_1 a0_2 a0_3 a0_4 a0_5 a0_6 a0_7 a0_8 a0_9 a0_10 l0_11 a0_12 a0_13 a0_14) else (typecaseref18_Classes.j1 k a0_0 (a0_0 == 3) a0_0 a0_1 a0_2 a0_3 a0_4 a0_5 a0_6 a0_7 a0_8 a0_9 a0_10 l0_11 a0_12 a0_13 a0_14))))
theorem typecaseref18_Classes.mono_l : ∀ k, (∀ y0 y1 y2 y3 y4 y5 y6 y7 y8 y9 y10 y11 y12 y13 y14 y15, LeO (typecaseref18_Classes.j0 k y0 y1 y2 y3 y4 y5 y6 y7 y8 y9 y10 y11 y12 y13 y14 y15) (typecaseref18_Classes.j0 (k + 1) y0 y1 y2 y3 y4 y5 y6 y7 y8 y9 y10 y11 y12 y13 y14 y15)) ∧ (∀ y0 y1 y2 y3 y4 y5 y6 y7 y8 y9 y10 y11 y12 y13 y14 y15 y16, LeO (typecaseref18_Classes.j1 k y0 y1 y2 y3 y4 y5 y6 y7 y8 y9 y10 y11 y12 y13 y14 y15 y16) (typecaseref18_Classes.j1 (k + 1) y0 y1 y2 y3 y4 y5 y6 y7 y8 y9 y10 y11 y12 y13 y14 y15 y16))
  | 0 => ⟨fun _ _ _ _ _ _ _ _ _ _ _ _ _ _ _ _ r h => by simp [typecaseref18_Classes.j0] at h, fun _ _ _ _ _ _ _ _ _ _ _ _ _ _ _ _ _ r h => by simp [typecaseref18_Classes.j1] at h⟩
  | k + 1 => by
    obtain ⟨ih0, ih1⟩ := typecaseref18_Classes.mono_l k
    refine ⟨?_, ?_⟩
    · intro y0 y1 y2 y3 y4 y5 y6 y7 y8 y9 y10 y11 y12 y13 y14 y15
      unfold typecaseref18_Classes.j0
      repeat' first
      | (with_reducible exact ih0 _ _ _ _ _ _ _ _ _ _ _ _ _ _ _ _)
      | (with_reducible exact ih1 _ _ _ _ _ _ _ _ _ _ _ _ _ _ _ _ _)
      | (with_reducible exact LeO.refl _)
      | (with_reducible exact LeO.none _)
      | (with_reducible refine LeO.ite ?_ ?_)
      | (with_reducible refine LeO.bind ?_ (fun _ => ?_))
      | exact ih0 _ _ _ _ _ _ _ _ _ _ _ _ _ _ _ _
      | exact ih1 _ _ _ _ _ _ _ _ _ _ _ _ _ _ _ _ _
      | exact LeO.none _
      | refine LeO.ite ?_ ?_
      | refine LeO.bind ?_ (fun _ => ?_)
    · intro y0 y1 y2 y3 y4 y5 y6 y7 y8 y9 y10 y11 y12 y13 y14 y15 y16
      unfold typecaseref18_Classes.j1
      repeat' first
      | (with_reducible exact ih0 _ _ _ _ _ _ _ _ _ _ _ _ _ _ _ _)
      | (with_reducible exact ih1 _ _ _ _ _ _ _ _ _ _ _ _ _ _ _ _ _)
      | (with_reducible exact LeO.refl _)
      | (with_reducible exact LeO.none _)
      | (with_reducible refine LeO.ite ?_ ?_)
      | (with_reducible refine LeO.bind ?_ (fun _ => ?_))
      | exact ih0 _ _ _ _ _ _ _ _ _ _ _ _ _ _ _ _
      | exact ih1 _ _ _ _ _ _ _ _ _ _ _ _ _ _ _ _ _
      | exact LeO.none _
      | refine LeO.ite ?_ ?_
      | refine LeO.bind ?_ (fun _ => ?_)
theorem typecaseref18_Classes.mono : ∀ a0 a1 a2 a3 a4 a5 a6 a7 a8 a9 a10 a11 a12 a13 a14 k, LeO (typecaseref18_Classes.f k a0 a1 a2 a3 a4 a5 a6 a7 a8 a9 a10 a11 a12 a13 a14) (typecaseref18_Classes.f (k + 1) a0 a1 a2 a3 a4 a5 a6 a7 a8 a9 a10 a11 a12 a13 a14) := by
  intro a0 a1 a2 a3 a4 a5 a6 a7 a8 a9 a10 a11 a12 a13 a14 k
  obtain ⟨ih0, ih1⟩ := typecaseref18_Classes.mono_l k
  unfold typecaseref18_Classes.f
  repeat' first
      | (with_reducible exact ih0 _ _ _ _ _ _ _ _ _ _ _ _ _ _ _ _)
      | (with_reducible exact ih1 _ _ _ _ _ _ _ _ _ _ _ _ _ _ _ _ _)
      | (with_reducible exact LeO.refl _)
      | (with_reducible exact LeO.none _)
      | (with_reducible refine LeO.ite ?_ ?_)
      | (with_reducible refine LeO.bind ?_ (fun _ => ?_))
      | exact ih0 _ _ _ _ _ _ _ _ _ _ _ _ _ _ _ _
      | exact ih1 _ _ _ _ _ _ _ _ _ _ _ _ _ _ _ _ _
      | exact LeO.none _
      | refine LeO.ite ?_ ?_
      | refine LeO.bind ?_ (fun _ => ?_)
set_option maxHeartbeats 8000000 in
set_option maxRecDepth 100000 in
theorem typecaseref18_Classes.calls (k : Nat) (a0_0 : Int) (a0_1 : Int) (a0_2 : Int) (a0_3 : ByteArray) (a0_4 : Int) (a0_5 : Int) (a0_6 : Int) (a0_7 : Int) (a0_8 : Int) (a0_9 : ByteArray) (a0_10 : Int) (A0_11 : Option Addr) (c0_11 : Nat) (l0_11 : List (S86)) (a0_12 : Int) (a0_13 : Bool) (a0_14 : Bool) (r : List Int) (w : World) (hr0_11 : Kd.C k86 w A0_11 l0_11.length l0_11) (hc0_11 : l0_11.length ≤ c0_11) (h : typecaseref18_Classes.f k a0_0 a0_1 a0_2 a0_3 a0_4 a0_5 a0_6 a0_7 a0_8 a0_9 a0_10 l0_11 a0_12 a0_13 a0_14 = some r) :
    Calls Try.prog 14 #[.agg #[.int .i64 a0_0, .int .i64 a0_1, .int .i64 a0_2, .string a0_3, .int .i64 a0_4, .int .i64 a0_5, .int .i64 a0_6, .int .i64 a0_7, .int .i32 a0_8, .string a0_9, .int .i64 a0_10, .slice A0_11 l0_11.length c0_11, .int .u32 a0_12, .bool a0_13, .bool a0_14]] w fun e w' => ∃ v0_ : Value, e = .returned (v0_) ∧ Kd.R (Kd.int .i64) 3 w' w.heap.size (fun _ => True) v0_ r ∧ Below w.heap.size w w' := by
  have hu27 := Try.underlying27
  have HR0_11 := Aside0.mk hr0_11
  have HC0_11 := Aside0.mk hc0_11
  clear hr0_11 hc0_11
  have HB := Aside0.mk (Below.refl w.heap.size w)
  have H : (if a0_0 = 4 then (if a0_14 = true then (if a0_4 = 5 then (if a0_7 = 0 then (if a0_6 ≥ 8 then (typecaseref18_Classes.j0 k (decide (a0_6 ≤ 15)) a0_0 a0_1 a0_2 a0_3 a0_4 a0_5 a0_6 a0_7 a0_8 a0_9 a0_10 l0_11 a0_12 a0_13 a0_14) else (typecaseref18_Classes.j0 k false a0_0 a0_1 a0_2 a0_3 a0_4 a0_5 a0_6 a0_7 a0_8 a0_9 a0_10 l0_11 a0_12 a0_13 a0_14)) else (typecaseref18_Classes.j0 k false a0_0 a0_1 a0_2 a0_3 a0_4 a0_5 a0_6 a0_7 a0_8 a0_9 a0_10 l0_11 a0_12 a0_13 a0_14)) else (if a0_4 = 6 then (if a0_7 = 0 then (if a0_6 ≥ 8 then (typecaseref18_Classes.j0 k (decide (a0_6 ≤ 15)) a0_0 a0_1 a0_2 a0_3 a0_4 a0_5 a0_6 a0_7 a0_8 a0_9 a0_10 l0_11 a0_12 a0_13 a0_14) else (typecaseref18_Classes.j0 k false a0_0 a0_1 a0_2 a0_3 a0_4 a0_5 a0_6 a0_7 a0_8 a0_9 a0_10 l0_11 a0_12 a0_13 a0_14)) else (typecaseref18_Classes.j0 k false a0_0 a0_1 a0_2 a0_3 a0_4 a0_5 a0_6 a0_7 a0_8 a0_9 a0_10 l0_11 a0_12 a0_13 a0_14)) else (typecaseref18_Classes.j0 k false a0_0 a0_1 a0_2 a0_3 a0_4 a0_5 a0_6 a0_7 a0_8 a0_9 a0_10 l0_11 a0_12 a0_13 a0_14))) else (typecaseref18_Classes.j0 k false a0_0 a0_1 a0_2 a0_3 a0_4 a0_5 a0_6 a0_7 a0_8 a0_9 a0_10 l0_11 a0_12 a0_13 a0_14)) else (if a0_0 = 5 then (if a0_13 = true then (if a0_14 = true then (some (([2, 4] : List Int))) else (some (([4] : List Int)))) else (some (([4] : List Int)))) else (if a0_0 = 6 then (if a0_13 = true then (if a0_14 = true then (some (([2, 4, 8] : List Int))) else (some (([4, 8] : List Int)))) else (some (([8] : List Int)))) else (if a0_0 = 2 then (typecaseref18_Classes.j1 k a0_0 (a0_0 == 2) a0_0 a0_1 a0_2 a0_3 a0_4 a0_5 a0_6 a0_7 a0_8 a0_9 a0_10 l0_11 a0_12 a0_13 a0_14) else (typecaseref18_Classes.j1 k a0_0 (a0_0 == 3) a0_0 a0_1 a0_2 a0_3 a0_4 a0_5 a0_6 a0_7 a0_8 a0_9 a0_10 l0_11 a0_12 a0_13 a0_14))))) = some r := h
  clear h
  by_cases c2 : a0_0 = 4
  · rw [if_pos c2] at H
    have c2b0 : (a0_0 == 4) = true := beq_iff_eq.mpr c2
    have c2b1 : (a0_0 != 4) = false := bne_eq_false_iff_eq.mpr c2
    clear c2
    have HC3 := Aside0.mk H
    clear H
    go_enter Try.func14, Try.ntmps14
    go_upto_region 4 with (first | ((with_reducible refine gate_dst (N := 1) rfl ?_); refine box_event ?hg (N := 1) ?hd (cs := #[.int .i64 a0_0, .int .i64 a0_1, .int .i64 a0_2, .string a0_3, .int .i64 a0_4, .int .i64 a0_5, .int .i64 a0_6, .int .i64 a0_7, .int .i32 a0_8, .string a0_9, .int .i64 a0_10, .slice A0_11 l0_11.length c0_11, .int .u32 a0_12, .bool a0_13, .bool a0_14]) (t := 27) ?hr ?_; (case hd => rfl); (case hg => rfl); (case hr => first | (go_simp; done) | (go_simp; rfl)); intro gb217 hg w4 hbox hb; have n0_ := Aside0.mk (below_step (by repeat (first | (with_reducible first | exact HB.out | apply below_alloc | apply pw_below_drewN | apply below_drew1) | exact HB.out)) hb); have n1_ := Aside0.mk (hbox); have n2_ := Aside0.mk ((by rw [hg]; exact (below_size (by repeat (first | (with_reducible first | exact HB.out | apply below_alloc | apply pw_below_drewN | apply below_drew1) | exact HB.out))) : w.heap.size ≤ gb217)); have n3_ := Aside0.mk ((by rw [hg]; exact (below_size (by repeat (first | (with_reducible first | exact HB.out | apply below_alloc | apply pw_below_drewN | apply below_drew1) | exact HB.out))) : w.heap.size ≤ gb217)); clear HB; have HB := n0_; have BK217 := n1_; have GW217 := n2_; have GE217 := n3_; clear n0_ n1_ n2_ n3_; clear hb hbox hg; have hcz5_0 : w4.cell? ⟨gb217, 0, none⟩ = some (.int .i64 a0_0) := (blk_cell BK217.out 0).trans rfl; have hcz5_1 : w4.cell? ⟨gb217, 1, none⟩ = some (.int .i64 a0_1) := (blk_cell BK217.out 1).trans rfl; have hcz5_2 : w4.cell? ⟨gb217, 2, none⟩ = some (.int .i64 a0_2) := (blk_cell BK217.out 2).trans rfl; have hcz5_3 : w4.cell? ⟨gb217, 3, none⟩ = some (.string a0_3) := (blk_cell BK217.out 3).trans rfl; have hcz5_4 : w4.cell? ⟨gb217, 4, none⟩ = some (.int .i64 a0_4) := (blk_cell BK217.out 4).trans rfl; have hcz5_5 : w4.cell? ⟨gb217, 5, none⟩ = some (.int .i64 a0_5) := (blk_cell BK217.out 5).trans rfl; have hcz5_6 : w4.cell? ⟨gb217, 6, none⟩ = some (.int .i64 a0_6) := (blk_cell BK217.out 6).trans rfl; have hcz5_7 : w4.cell? ⟨gb217, 7, none⟩ = some (.int .i64 a0_7) := (blk_cell BK217.out 7).trans rfl; have hcz5_8 : w4.cell? ⟨gb217, 8, none⟩ = some (.int .i32 a0_8) := (blk_cell BK217.out 8).trans rfl; have hcz5_9 : w4.cell? ⟨gb217, 9, none⟩ = some (.string a0_9) := (blk_cell BK217.out 9).trans rfl; have hcz5_10 : w4.cell? ⟨gb217, 10, none⟩ = some (.int .i64 a0_10) := (blk_cell BK217.out 10).trans rfl; have hcz5_11 : w4.cell? ⟨gb217, 11, none⟩ = some (.slice A0_11 l0_11.length c0_11) := (blk_cell BK217.out 11).trans rfl; have hcz5_12 : w4.cell? ⟨gb217, 12, none⟩ = some (.int .u32 a0_12) := (blk_cell BK217.out 12).trans rfl; have hcz5_13 : w4.cell? ⟨gb217, 13, none⟩ = some (.bool a0_13) := (blk_cell BK217.out 13).trans rfl; have hcz5_14 : w4.cell? ⟨gb217, 14, none⟩ = some (.bool a0_14) := (blk_cell BK217.out 14).trans rfl; have hfz5_0 := blk_frozen BK217.out 0; have hfz5_1 := blk_frozen BK217.out 1; have hfz5_2 := blk_frozen BK217.out 2; have hfz5_3 := blk_frozen BK217.out 3; have hfz5_4 := blk_frozen BK217.out 4; have hfz5_5 := blk_frozen BK217.out 5; have hfz5_6 := blk_frozen BK217.out 6; have hfz5_7 := blk_frozen BK217.out 7; have hfz5_8 := blk_frozen BK217.out 8; have hfz5_9 := blk_frozen BK217.out 9; have hfz5_10 := blk_frozen BK217.out 10; have hfz5_11 := blk_frozen BK217.out 11; have hfz5_12 := blk_frozen BK217.out 12; have hfz5_13 := blk_frozen BK217.out 13; have hfz5_14 := blk_frozen BK217.out 14))
    (try simp only [Act.put, List.setIfInBounds_toArray, List.set_cons_zero, List.set_cons_succ])
    go_cut [3] (fun v3 wc => ∃ (kq : Nat) (x3_2 : Bool), v3 = .bool x3_2 ∧ Aside0 (typecaseref18_Classes.j0 kq x3_2 a0_0 a0_1 a0_2 a0_3 a0_4 a0_5 a0_6 a0_7 a0_8 a0_9 a0_10 l0_11 a0_12 a0_13 a0_14 = some r) ∧ Aside0 (kq ≤ k) ∧ Aside0 (wc.heap[gb217]? = some (.cells #[.int .i64 a0_0, .int .i64 a0_1, .int .i64 a0_2, .string a0_3, .int .i64 a0_4, .int .i64 a0_5, .int .i64 a0_6, .int .i64 a0_7, .int .i32 a0_8, .string a0_9, .int .i64 a0_10, (.slice A0_11 l0_11.length c0_11), .int .u32 a0_12, .bool a0_13, .bool a0_14] 27 (0, 0))) ∧ Aside0 (Below w.heap.size w wc))
    case first =>
      have H := HC3.out
      clear HC3
      by_cases c6 : a0_14 = true
      · subst c6
        have H1 : (if a0_4 = 5 then (if a0_7 = 0 then (if a0_6 ≥ 8 then (typecaseref18_Classes.j0 k (decide (a0_6 ≤ 15)) a0_0 a0_1 a0_2 a0_3 a0_4 a0_5 a0_6 a0_7 a0_8 a0_9 a0_10 l0_11 a0_12 a0_13 true) else (typecaseref18_Classes.j0 k false a0_0 a0_1 a0_2 a0_3 a0_4 a0_5 a0_6 a0_7 a0_8 a0_9 a0_10 l0_11 a0_12 a0_13 true)) else (typecaseref18_Classes.j0 k false a0_0 a0_1 a0_2 a0_3 a0_4 a0_5 a0_6 a0_7 a0_8 a0_9 a0_10 l0_11 a0_12 a0_13 true)) else (if a0_4 = 6 then (if a0_7 = 0 then (if a0_6 ≥ 8 then (typecaseref18_Classes.j0 k (decide (a0_6 ≤ 15)) a0_0 a0_1 a0_2 a0_3 a0_4 a0_5 a0_6 a0_7 a0_8 a0_9 a0_10 l0_11 a0_12 a0_13 true) else (typecaseref18_Classes.j0 k false a0_0 a0_1 a0_2 a0_3 a0_4 a0_5 a0_6 a0_7 a0_8 a0_9 a0_10 l0_11 a0_12 a0_13 true)) else (typecaseref18_Classes.j0 k false a0_0 a0_1 a0_2 a0_3 a0_4 a0_5 a0_6 a0_7 a0_8 a0_9 a0_10 l0_11 a0_12 a0_13 true)) else (typecaseref18_Classes.j0 k false a0_0 a0_1 a0_2 a0_3 a0_4 a0_5 a0_6 a0_7 a0_8 a0_9 a0_10 l0_11 a0_12 a0_13 true))) = some r := by rw [if_pos rfl] at H; exact H
        clear H
        have H := H1
        clear H1
        by_cases c7 : a0_4 = 5
        · rw [if_pos c7] at H
          have c7b0 : (a0_4 == 5) = true := beq_iff_eq.mpr c7
          have c7b1 : (a0_4 != 5) = false := bne_eq_false_iff_eq.mpr c7
          clear c7
          (first | rw [c7b0] | (simp only [i64_w, i32_w]; rw [c7b0]) | skip)
          by_cases c8 : a0_7 = 0
          · rw [if_pos c8] at H
            have c8b0 : (a0_7 == 0) = true := beq_iff_eq.mpr c8
            have c8b1 : (a0_7 != 0) = false := bne_eq_false_iff_eq.mpr c8
            clear c8
            by_cases c9 : a0_6 ≥ 8
            · rw [if_pos c9] at H
              have c9b0 : decide (8 ≤ a0_6) = true := decide_eq_true c9
              clear c9
              have H' := Aside0.mk H
              clear H
              have hcz10_0 : w4.cell? ⟨gb217, 0, none⟩ = some (.int .i64 a0_0) := (blk_cell BK217.out 0).trans rfl
              have hcz10_1 : w4.cell? ⟨gb217, 1, none⟩ = some (.int .i64 a0_1) := (blk_cell BK217.out 1).trans rfl
              have hcz10_2 : w4.cell? ⟨gb217, 2, none⟩ = some (.int .i64 a0_2) := (blk_cell BK217.out 2).trans rfl
              have hcz10_3 : w4.cell? ⟨gb217, 3, none⟩ = some (.string a0_3) := (blk_cell BK217.out 3).trans rfl
              have hcz10_4 : w4.cell? ⟨gb217, 4, none⟩ = some (.int .i64 a0_4) := (blk_cell BK217.out 4).trans rfl
              have hcz10_5 : w4.cell? ⟨gb217, 5, none⟩ = some (.int .i64 a0_5) := (blk_cell BK217.out 5).trans rfl
              have hcz10_6 : w4.cell? ⟨gb217, 6, none⟩ = some (.int .i64 a0_6) := (blk_cell BK217.out 6).trans rfl
              have hcz10_7 : w4.cell? ⟨gb217, 7, none⟩ = some (.int .i64 a0_7) := (blk_cell BK217.out 7).trans rfl
              have hcz10_8 : w4.cell? ⟨gb217, 8, none⟩ = some (.int .i32 a0_8) := (blk_cell BK217.out 8).trans rfl
              have hcz10_9 : w4.cell? ⟨gb217, 9, none⟩ = some (.string a0_9) := (blk_cell BK217.out 9).trans rfl
              have hcz10_10 : w4.cell? ⟨gb217, 10, none⟩ = some (.int .i64 a0_10) := (blk_cell BK217.out 10).trans rfl
              have hcz10_11 : w4.cell? ⟨gb217, 11, none⟩ = some (.slice A0_11 l0_11.length c0_11) := (blk_cell BK217.out 11).trans rfl
              have hcz10_12 : w4.cell? ⟨gb217, 12, none⟩ = some (.int .u32 a0_12) := (blk_cell BK217.out 12).trans rfl
              have hcz10_13 : w4.cell? ⟨gb217, 13, none⟩ = some (.bool a0_13) := (blk_cell BK217.out 13).trans rfl
              have hcz10_14 : w4.cell? ⟨gb217, 14, none⟩ = some (.bool true) := (blk_cell BK217.out 14).trans rfl
              have hfz10_0 := blk_frozen BK217.out 0
              have hfz10_1 := blk_frozen BK217.out 1
              have hfz10_2 := blk_frozen BK217.out 2
              have hfz10_3 := blk_frozen BK217.out 3
              have hfz10_4 := blk_frozen BK217.out 4
              have hfz10_5 := blk_frozen BK217.out 5
              have hfz10_6 := blk_frozen BK217.out 6
              have hfz10_7 := blk_frozen BK217.out 7
              have hfz10_8 := blk_frozen BK217.out 8
              have hfz10_9 := blk_frozen BK217.out 9
              have hfz10_10 := blk_frozen BK217.out 10
              have hfz10_11 := blk_frozen BK217.out 11
              have hfz10_12 := blk_frozen BK217.out 12
              have hfz10_13 := blk_frozen BK217.out 13
              have hfz10_14 := blk_frozen BK217.out 14
              go_wp2
              go_meet
              case rel => exact ⟨_, (decide (a0_6 ≤ 15)), (by first | rfl | (simp; done) | (simp [*]; done)), H', ⟨by first | omega | exact Nat.le_refl _⟩, ⟨by (with_reducible repeat (first | refine blk_drewN ?_ _ | refine blk_drew ?_ | refine blk_alloc ?_ _)); exact BK217.out⟩, ⟨by repeat (first | (with_reducible first | exact HB.out | apply below_alloc | apply pw_below_drewN | apply below_drew1 | refine below_set ?_ GE217.out) | exact HB.out)⟩⟩
            · rw [if_neg c9] at H
              have c9b0 : decide (8 ≤ a0_6) = false := decide_eq_false c9
              clear c9
              have H' := Aside0.mk H
              clear H
              have hcz11_0 : w4.cell? ⟨gb217, 0, none⟩ = some (.int .i64 a0_0) := (blk_cell BK217.out 0).trans rfl
              have hcz11_1 : w4.cell? ⟨gb217, 1, none⟩ = some (.int .i64 a0_1) := (blk_cell BK217.out 1).trans rfl
              have hcz11_2 : w4.cell? ⟨gb217, 2, none⟩ = some (.int .i64 a0_2) := (blk_cell BK217.out 2).trans rfl
              have hcz11_3 : w4.cell? ⟨gb217, 3, none⟩ = some (.string a0_3) := (blk_cell BK217.out 3).trans rfl
              have hcz11_4 : w4.cell? ⟨gb217, 4, none⟩ = some (.int .i64 a0_4) := (blk_cell BK217.out 4).trans rfl
              have hcz11_5 : w4.cell? ⟨gb217, 5, none⟩ = some (.int .i64 a0_5) := (blk_cell BK217.out 5).trans rfl
              have hcz11_6 : w4.cell? ⟨gb217, 6, none⟩ = some (.int .i64 a0_6) := (blk_cell BK217.out 6).trans rfl
              have hcz11_7 : w4.cell? ⟨gb217, 7, none⟩ = some (.int .i64 a0_7) := (blk_cell BK217.out 7).trans rfl
              have hcz11_8 : w4.cell? ⟨gb217, 8, none⟩ = some (.int .i32 a0_8) := (blk_cell BK217.out 8).trans rfl
              have hcz11_9 : w4.cell? ⟨gb217, 9, none⟩ = some (.string a0_9) := (blk_cell BK217.out 9).trans rfl
              have hcz11_10 : w4.cell? ⟨gb217, 10, none⟩ = some (.int .i64 a0_10) := (blk_cell BK217.out 10).trans rfl
              have hcz11_11 : w4.cell? ⟨gb217, 11, none⟩ = some (.slice A0_11 l0_11.length c0_11) := (blk_cell BK217.out 11).trans rfl
              have hcz11_12 : w4.cell? ⟨gb217, 12, none⟩ = some (.int .u32 a0_12) := (blk_cell BK217.out 12).trans rfl
              have hcz11_13 : w4.cell? ⟨gb217, 13, none⟩ = some (.bool a0_13) := (blk_cell BK217.out 13).trans rfl
              have hcz11_14 : w4.cell? ⟨gb217, 14, none⟩ = some (.bool true) := (blk_cell BK217.out 14).trans rfl
              have hfz11_0 := blk_frozen BK217.out 0
              have hfz11_1 := blk_frozen BK217.out 1
              have hfz11_2 := blk_frozen BK217.out 2
              have hfz11_3 := blk_frozen BK217.out 3
              have hfz11_4 := blk_frozen BK217.out 4
              have hfz11_5 := blk_frozen BK217.out 5
              have hfz11_6 := blk_frozen BK217.out 6
              have hfz11_7 := blk_frozen BK217.out 7
              have hfz11_8 := blk_frozen BK217.out 8
              have hfz11_9 := blk_frozen BK217.out 9
              have hfz11_10 := blk_frozen BK217.out 10
              have hfz11_11 := blk_frozen BK217.out 11
              have hfz11_12 := blk_frozen BK217.out 12
              have hfz11_13 := blk_frozen BK217.out 13
              have hfz11_14 := blk_frozen BK217.out 14
              go_wp2
              go_meet
              case rel => exact ⟨_, (false), (by first | rfl | (simp; done) | (simp [*]; done)), H', ⟨by first | omega | exact Nat.le_refl _⟩, ⟨by (with_reducible repeat (first | refine blk_drewN ?_ _ | refine blk_drew ?_ | refine blk_alloc ?_ _)); exact BK217.out⟩, ⟨by repeat (first | (with_reducible first | exact HB.out | apply below_alloc | apply pw_below_drewN | apply below_drew1 | refine below_set ?_ GE217.out) | exact HB.out)⟩⟩
          · rw [if_neg c8] at H
            have c8b0 : (a0_7 == 0) = false := beq_eq_false_iff_ne.mpr c8
            have c8b1 : (a0_7 != 0) = true := bne_iff_ne.mpr c8
            have H' := Aside0.mk H
            clear H
            have hcz12_0 : w4.cell? ⟨gb217, 0, none⟩ = some (.int .i64 a0_0) := (blk_cell BK217.out 0).trans rfl
            have hcz12_1 : w4.cell? ⟨gb217, 1, none⟩ = some (.int .i64 a0_1) := (blk_cell BK217.out 1).trans rfl
            have hcz12_2 : w4.cell? ⟨gb217, 2, none⟩ = some (.int .i64 a0_2) := (blk_cell BK217.out 2).trans rfl
            have hcz12_3 : w4.cell? ⟨gb217, 3, none⟩ = some (.string a0_3) := (blk_cell BK217.out 3).trans rfl
            have hcz12_4 : w4.cell? ⟨gb217, 4, none⟩ = some (.int .i64 a0_4) := (blk_cell BK217.out 4).trans rfl
            have hcz12_5 : w4.cell? ⟨gb217, 5, none⟩ = some (.int .i64 a0_5) := (blk_cell BK217.out 5).trans rfl
            have hcz12_6 : w4.cell? ⟨gb217, 6, none⟩ = some (.int .i64 a0_6) := (blk_cell BK217.out 6).trans rfl
            have hcz12_7 : w4.cell? ⟨gb217, 7, none⟩ = some (.int .i64 a0_7) := (blk_cell BK217.out 7).trans rfl
            have hcz12_8 : w4.cell? ⟨gb217, 8, none⟩ = some (.int .i32 a0_8) := (blk_cell BK217.out 8).trans rfl
            have hcz12_9 : w4.cell? ⟨gb217, 9, none⟩ = some (.string a0_9) := (blk_cell BK217.out 9).trans rfl
            have hcz12_10 : w4.cell? ⟨gb217, 10, none⟩ = some (.int .i64 a0_10) := (blk_cell BK217.out 10).trans rfl
            have hcz12_11 : w4.cell? ⟨gb217, 11, none⟩ = some (.slice A0_11 l0_11.length c0_11) := (blk_cell BK217.out 11).trans rfl
            have hcz12_12 : w4.cell? ⟨gb217, 12, none⟩ = some (.int .u32 a0_12) := (blk_cell BK217.out 12).trans rfl
            have hcz12_13 : w4.cell? ⟨gb217, 13, none⟩ = some (.bool a0_13) := (blk_cell BK217.out 13).trans rfl
            have hcz12_14 : w4.cell? ⟨gb217, 14, none⟩ = some (.bool true) := (blk_cell BK217.out 14).trans rfl
            have hfz12_0 := blk_frozen BK217.out 0
            have hfz12_1 := blk_frozen BK217.out 1
            have hfz12_2 := blk_frozen BK217.out 2
            have hfz12_3 := blk_frozen BK217.out 3
            have hfz12_4 := blk_frozen BK217.out 4
            have hfz12_5 := blk_frozen BK217.out 5
            have hfz12_6 := blk_frozen BK217.out 6
            have hfz12_7 := blk_frozen BK217.out 7
            have hfz12_8 := blk_frozen BK217.out 8
            have hfz12_9 := blk_frozen BK217.out 9
            have hfz12_10 := blk_frozen BK217.out 10
            have hfz12_11 := blk_frozen BK217.out 11
            have hfz12_12 := blk_frozen BK217.out 12
            have hfz12_13 := blk_frozen BK217.out 13
            have hfz12_14 := blk_frozen BK217.out 14
            go_wp2
            go_meet
            case rel => exact ⟨_, (false), (by first | rfl | (simp; done) | (simp [*]; done)), H', ⟨by first | omega | exact Nat.le_refl _⟩, ⟨by (with_reducible repeat (first | refine blk_drewN ?_ _ | refine blk_drew ?_ | refine blk_alloc ?_ _)); exact BK217.out⟩, ⟨by repeat (first | (with_reducible first | exact HB.out | apply below_alloc | apply pw_below_drewN | apply below_drew1 | refine below_set ?_ GE217.out) | exact HB.out)⟩⟩
        · rw [if_neg c7] at H
          have c7b0 : (a0_4 == 5) = false := beq_eq_false_iff_ne.mpr c7
          have c7b1 : (a0_4 != 5) = true := bne_iff_ne.mpr c7
          (first | rw [c7b0] | (simp only [i64_w, i32_w]; rw [c7b0]) | skip)
          by_cases c13 : a0_4 = 6
          · rw [if_pos c13] at H
            have c13b0 : (a0_4 == 6) = true := beq_iff_eq.mpr c13
            have c13b1 : (a0_4 != 6) = false := bne_eq_false_iff_eq.mpr c13
            clear c13
            by_cases c14 : a0_7 = 0
            · rw [if_pos c14] at H
              have c14b0 : (a0_7 == 0) = true := beq_iff_eq.mpr c14
              have c14b1 : (a0_7 != 0) = false := bne_eq_false_iff_eq.mpr c14
              clear c14
              by_cases c15 : a0_6 ≥ 8
              · rw [if_pos c15] at H
                have c15b0 : decide (8 ≤ a0_6) = true := decide_eq_true c15
                clear c15
                have H' := Aside0.mk H
                clear H
                have hcz16_0 : w4.cell? ⟨gb217, 0, none⟩ = some (.int .i64 a0_0) := (blk_cell BK217.out 0).trans rfl
                have hcz16_1 : w4.cell? ⟨gb217, 1, none⟩ = some (.int .i64 a0_1) := (blk_cell BK217.out 1).trans rfl
                have hcz16_2 : w4.cell? ⟨gb217, 2, none⟩ = some (.int .i64 a0_2) := (blk_cell BK217.out 2).trans rfl
                have hcz16_3 : w4.cell? ⟨gb217, 3, none⟩ = some (.string a0_3) := (blk_cell BK217.out 3).trans rfl
                have hcz16_4 : w4.cell? ⟨gb217, 4, none⟩ = some (.int .i64 a0_4) := (blk_cell BK217.out 4).trans rfl
                have hcz16_5 : w4.cell? ⟨gb217, 5, none⟩ = some (.int .i64 a0_5) := (blk_cell BK217.out 5).trans rfl
                have hcz16_6 : w4.cell? ⟨gb217, 6, none⟩ = some (.int .i64 a0_6) := (blk_cell BK217.out 6).trans rfl
                have hcz16_7 : w4.cell? ⟨gb217, 7, none⟩ = some (.int .i64 a0_7) := (blk_cell BK217.out 7).trans rfl
                have hcz16_8 : w4.cell? ⟨gb217, 8, none⟩ = some (.int .i32 a0_8) := (blk_cell BK217.out 8).trans rfl
                have hcz16_9 : w4.cell? ⟨gb217, 9, none⟩ = some (.string a0_9) := (blk_cell BK217.out 9).trans rfl
                have hcz16_10 : w4.cell? ⟨gb217, 10, none⟩ = some (.int .i64 a0_10) := (blk_cell BK217.out 10).trans rfl
                have hcz16_11 : w4.cell? ⟨gb217, 11, none⟩ = some (.slice A0_11 l0_11.length c0_11) := (blk_cell BK217.out 11).trans rfl
                have hcz16_12 : w4.cell? ⟨gb217, 12, none⟩ = some (.int .u32 a0_12) := (blk_cell BK217.out 12).trans rfl
                have hcz16_13 : w4.cell? ⟨gb217, 13, none⟩ = some (.bool a0_13) := (blk_cell BK217.out 13).trans rfl
                have hcz16_14 : w4.cell? ⟨gb217, 14, none⟩ = some (.bool true) := (blk_cell BK217.out 14).trans rfl
                have hfz16_0 := blk_frozen BK217.out 0
                have hfz16_1 := blk_frozen BK217.out 1
                have hfz16_2 := blk_frozen BK217.out 2
                have hfz16_3 := blk_frozen BK217.out 3
                have hfz16_4 := blk_frozen BK217.out 4
                have hfz16_5 := blk_frozen BK217.out 5
                have hfz16_6 := blk_frozen BK217.out 6
                have hfz16_7 := blk_frozen BK217.out 7
                have hfz16_8 := blk_frozen BK217.out 8
                have hfz16_9 := blk_frozen BK217.out 9
                have hfz16_10 := blk_frozen BK217.out 10
                have hfz16_11 := blk_frozen BK217.out 11
                have hfz16_12 := blk_frozen BK217.out 12
                have hfz16_13 := blk_frozen BK217.out 13
                have hfz16_14 := blk_frozen BK217.out 14
                go_wp2
                go_meet
                case rel => exact ⟨_, (decide (a0_6 ≤ 15)), (by first | rfl | (simp; done) | (simp [*]; done)), H', ⟨by first | omega | exact Nat.le_refl _⟩, ⟨by (with_reducible repeat (first | refine blk_drewN ?_ _ | refine blk_drew ?_ | refine blk_alloc ?_ _)); exact BK217.out⟩, ⟨by repeat (first | (with_reducible first | exact HB.out | apply below_alloc | apply pw_below_drewN | apply below_drew1 | refine below_set ?_ GE217.out) | exact HB.out)⟩⟩
              · rw [if_neg c15] at H
                have c15b0 : decide (8 ≤ a0_6) = false := decide_eq_false c15
                clear c15
                have H' := Aside0.mk H
                clear H
                have hcz17_0 : w4.cell? ⟨gb217, 0, none⟩ = some (.int .i64 a0_0) := (blk_cell BK217.out 0).trans rfl
                have hcz17_1 : w4.cell? ⟨gb217, 1, none⟩ = some (.int .i64 a0_1) := (blk_cell BK217.out 1).trans rfl
                have hcz17_2 : w4.cell? ⟨gb217, 2, none⟩ = some (.int .i64 a0_2) := (blk_cell BK217.out 2).trans rfl
                have hcz17_3 : w4.cell? ⟨gb217, 3, none⟩ = some (.string a0_3) := (blk_cell BK217.out 3).trans rfl
                have hcz17_4 : w4.cell? ⟨gb217, 4, none⟩ = some (.int .i64 a0_4) := (blk_cell BK217.out 4).trans rfl
                have hcz17_5 : w4.cell? ⟨gb217, 5, none⟩ = some (.int .i64 a0_5) := (blk_cell BK217.out 5).trans rfl
                have hcz17_6 : w4.cell? ⟨gb217, 6, none⟩ = some (.int .i64 a0_6) := (blk_cell BK217.out 6).trans rfl
                have hcz17_7 : w4.cell? ⟨gb217, 7, none⟩ = some (.int .i64 a0_7) := (blk_cell BK217.out 7).trans rfl
                have hcz17_8 : w4.cell? ⟨gb217, 8, none⟩ = some (.int .i32 a0_8) := (blk_cell BK217.out 8).trans rfl
                have hcz17_9 : w4.cell? ⟨gb217, 9, none⟩ = some (.string a0_9) := (blk_cell BK217.out 9).trans rfl
                have hcz17_10 : w4.cell? ⟨gb217, 10, none⟩ = some (.int .i64 a0_10) := (blk_cell BK217.out 10).trans rfl
                have hcz17_11 : w4.cell? ⟨gb217, 11, none⟩ = some (.slice A0_11 l0_11.length c0_11) := (blk_cell BK217.out 11).trans rfl
                have hcz17_12 : w4.cell? ⟨gb217, 12, none⟩ = some (.int .u32 a0_12) := (blk_cell BK217.out 12).trans rfl
                have hcz17_13 : w4.cell? ⟨gb217, 13, none⟩ = some (.bool a0_13) := (blk_cell BK217.out 13).trans rfl
                have hcz17_14 : w4.cell? ⟨gb217, 14, none⟩ = some (.bool true) := (blk_cell BK217.out 14).trans rfl
                have hfz17_0 := blk_frozen BK217.out 0
                have hfz17_1 := blk_frozen BK217.out 1
                have hfz17_2 := blk_frozen BK217.out 2
                have hfz17_3 := blk_frozen BK217.out 3
                have hfz17_4 := blk_frozen BK217.out 4
                have hfz17_5 := blk_frozen BK217.out 5
                have hfz17_6 := blk_frozen BK217.out 6
                have hfz17_7 := blk_frozen BK217.out 7
                have hfz17_8 := blk_frozen BK217.out 8
                have hfz17_9 := blk_frozen BK217.out 9
                have hfz17_10 := blk_frozen BK217.out 10
                have hfz17_11 := blk_frozen BK217.out 11
                have hfz17_12 := blk_frozen BK217.out 12
                have hfz17_13 := blk_frozen BK217.out 13
                have hfz17_14 := blk_frozen BK217.out 14
                go_wp2
                go_meet
                case rel => exact ⟨_, (false), (by first | rfl | (simp; done) | (simp [*]; done)), H', ⟨by first | omega | exact Nat.le_refl _⟩, ⟨by (with_reducible repeat (first | refine blk_drewN ?_ _ | refine blk_drew ?_ | refine blk_alloc ?_ _)); exact BK217.out⟩, ⟨by repeat (first | (with_reducible first | exact HB.out | apply below_alloc | apply pw_below_drewN | apply below_drew1 | refine below_set ?_ GE217.out) | exact HB.out)⟩⟩
            · rw [if_neg c14] at H
              have c14b0 : (a0_7 == 0) = false := beq_eq_false_iff_ne.mpr c14
              have c14b1 : (a0_7 != 0) = true := bne_iff_ne.mpr c14
              have H' := Aside0.mk H
              clear H
              have hcz18_0 : w4.cell? ⟨gb217, 0, none⟩ = some (.int .i64 a0_0) := (blk_cell BK217.out 0).trans rfl
              have hcz18_1 : w4.cell? ⟨gb217, 1, none⟩ = some (.int .i64 a0_1) := (blk_cell BK217.out 1).trans rfl
              have hcz18_2 : w4.cell? ⟨gb217, 2, none⟩ = some (.int .i64 a0_2) := (blk_cell BK217.out 2).trans rfl
              have hcz18_3 : w4.cell? ⟨gb217, 3, none⟩ = some (.string a0_3) := (blk_cell BK217.out 3).trans rfl
              have hcz18_4 : w4.cell? ⟨gb217, 4, none⟩ = some (.int .i64 a0_4) := (blk_cell BK217.out 4).trans rfl
              have hcz18_5 : w4.cell? ⟨gb217, 5, none⟩ = some (.int .i64 a0_5) := (blk_cell BK217.out 5).trans rfl
              have hcz18_6 : w4.cell? ⟨gb217, 6, none⟩ = some (.int .i64 a0_6) := (blk_cell BK217.out 6).trans rfl
              have hcz18_7 : w4.cell? ⟨gb217, 7, none⟩ = some (.int .i64 a0_7) := (blk_cell BK217.out 7).trans rfl
              have hcz18_8 : w4.cell? ⟨gb217, 8, none⟩ = some (.int .i32 a0_8) := (blk_cell BK217.out 8).trans rfl
              have hcz18_9 : w4.cell? ⟨gb217, 9, none⟩ = some (.string a0_9) := (blk_cell BK217.out 9).trans rfl
              have hcz18_10 : w4.cell? ⟨gb217, 10, none⟩ = some (.int .i64 a0_10) := (blk_cell BK217.out 10).trans rfl
              have hcz18_11 : w4.cell? ⟨gb217, 11, none⟩ = some (.slice A0_11 l0_11.length c0_11) := (blk_cell BK217.out 11).trans rfl
              have hcz18_12 : w4.cell? ⟨gb217, 12, none⟩ = some (.int .u32 a0_12) := (blk_cell BK217.out 12).trans rfl
              have hcz18_13 : w4.cell? ⟨gb217, 13, none⟩ = some (.bool a0_13) := (blk_cell BK217.out 13).trans rfl
              have hcz18_14 : w4.cell? ⟨gb217, 14, none⟩ = some (.bool true) := (blk_cell BK217.out 14).trans rfl
              have hfz18_0 := blk_frozen BK217.out 0
              have hfz18_1 := blk_frozen BK217.out 1
              have hfz18_2 := blk_frozen BK217.out 2
              have hfz18_3 := blk_frozen BK217.out 3
              have hfz18_4 := blk_frozen BK217.out 4
              have hfz18_5 := blk_frozen BK217.out 5
              have hfz18_6 := blk_frozen BK217.out 6
              have hfz18_7 := blk_frozen BK217.out 7
              have hfz18_8 := blk_frozen BK217.out 8
              have hfz18_9 := blk_frozen BK217.out 9
              have hfz18_10 := blk_frozen BK217.out 10
              have hfz18_11 := blk_frozen BK217.out 11
              have hfz18_12 := blk_frozen BK217.out 12
              have hfz18_13 := blk_frozen BK217.out 13
              have hfz18_14 := blk_frozen BK217.out 14
              go_wp2
              go_meet
              case rel => exact ⟨_, (false), (by first | rfl | (simp; done) | (simp [*]; done)), H', ⟨by first | omega | exact Nat.le_refl _⟩, ⟨by (with_reducible repeat (first | refine blk_drewN ?_ _ | refine blk_drew ?_ | refine blk_alloc ?_ _)); exact BK217.out⟩, ⟨by repeat (first | (with_reducible first | exact HB.out | apply below_alloc | apply pw_below_drewN | apply below_drew1 | refine below_set ?_ GE217.out) | exact HB.out)⟩⟩
          · rw [if_neg c13] at H
            have c13b0 : (a0_4 == 6) = false := beq_eq_false_iff_ne.mpr c13
            have c13b1 : (a0_4 != 6) = true := bne_iff_ne.mpr c13
            have H' := Aside0.mk H
            clear H
            have hcz19_0 : w4.cell? ⟨gb217, 0, none⟩ = some (.int .i64 a0_0) := (blk_cell BK217.out 0).trans rfl
            have hcz19_1 : w4.cell? ⟨gb217, 1, none⟩ = some (.int .i64 a0_1) := (blk_cell BK217.out 1).trans rfl
            have hcz19_2 : w4.cell? ⟨gb217, 2, none⟩ = some (.int .i64 a0_2) := (blk_cell BK217.out 2).trans rfl
            have hcz19_3 : w4.cell? ⟨gb217, 3, none⟩ = some (.string a0_3) := (blk_cell BK217.out 3).trans rfl
            have hcz19_4 : w4.cell? ⟨gb217, 4, none⟩ = some (.int .i64 a0_4) := (blk_cell BK217.out 4).trans rfl
            have hcz19_5 : w4.cell? ⟨gb217, 5, none⟩ = some (.int .i64 a0_5) := (blk_cell BK217.out 5).trans rfl
            have hcz19_6 : w4.cell? ⟨gb217, 6, none⟩ = some (.int .i64 a0_6) := (blk_cell BK217.out 6).trans rfl
            have hcz19_7 : w4.cell? ⟨gb217, 7, none⟩ = some (.int .i64 a0_7) := (blk_cell BK217.out 7).trans rfl
            have hcz19_8 : w4.cell? ⟨gb217, 8, none⟩ = some (.int .i32 a0_8) := (blk_cell BK217.out 8).trans rfl
            have hcz19_9 : w4.cell? ⟨gb217, 9, none⟩ = some (.string a0_9) := (blk_cell BK217.out 9).trans rfl
            have hcz19_10 : w4.cell? ⟨gb217, 10, none⟩ = some (.int .i64 a0_10) := (blk_cell BK217.out 10).trans rfl
            have hcz19_11 : w4.cell? ⟨gb217, 11, none⟩ = some (.slice A0_11 l0_11.length c0_11) := (blk_cell BK217.out 11).trans rfl
            have hcz19_12 : w4.cell? ⟨gb217, 12, none⟩ = some (.int .u32 a0_12) := (blk_cell BK217.out 12).trans rfl
            have hcz19_13 : w4.cell? ⟨gb217, 13, none⟩ = some (.bool a0_13) := (blk_cell BK217.out 13).trans rfl
            have hcz19_14 : w4.cell? ⟨gb217, 14, none⟩ = some (.bool true) := (blk_cell BK217.out 14).trans rfl
            have hfz19_0 := blk_frozen BK217.out 0
            have hfz19_1 := blk_frozen BK217.out 1
            have hfz19_2 := blk_frozen BK217.out 2
            have hfz19_3 := blk_frozen BK217.out 3
            have hfz19_4 := blk_frozen BK217.out 4
            have hfz19_5 := blk_frozen BK217.out 5
            have hfz19_6 := blk_frozen BK217.out 6
            have hfz19_7 := blk_frozen BK217.out 7
            have hfz19_8 := blk_frozen BK217.out 8
            have hfz19_9 := blk_frozen BK217.out 9
            have hfz19_10 := blk_frozen BK217.out 10
            have hfz19_11 := blk_frozen BK217.out 11
            have hfz19_12 := blk_frozen BK217.out 12
            have hfz19_13 := blk_frozen BK217.out 13
            have hfz19_14 := blk_frozen BK217.out 14
            go_wp2
            go_meet
            case rel => exact ⟨_, (false), (by first | rfl | (simp; done) | (simp [*]; done)), H', ⟨by first | omega | exact Nat.le_refl _⟩, ⟨by (with_reducible repeat (first | refine blk_drewN ?_ _ | refine blk_drew ?_ | refine blk_alloc ?_ _)); exact BK217.out⟩, ⟨by repeat (first | (with_reducible first | exact HB.out | apply below_alloc | apply pw_below_drewN | apply below_drew1 | refine below_set ?_ GE217.out) | exact HB.out)⟩⟩
      · replace c6 := Bool.eq_false_iff.mpr c6
        subst c6
        have H1 : (typecaseref18_Classes.j0 k false a0_0 a0_1 a0_2 a0_3 a0_4 a0_5 a0_6 a0_7 a0_8 a0_9 a0_10 l0_11 a0_12 a0_13 false) = some r := by rw [if_neg (show ¬ (false = true) by decide)] at H; exact H
        clear H
        have H := H1
        clear H1
        have H' := Aside0.mk H
        clear H
        go_wp2
        go_meet
        case rel => exact ⟨_, (false), (by first | rfl | (simp; done) | (simp [*]; done)), H', ⟨by first | omega | exact Nat.le_refl _⟩, ⟨by (with_reducible repeat (first | refine blk_drewN ?_ _ | refine blk_drew ?_ | refine blk_alloc ?_ _)); exact BK217.out⟩, ⟨by repeat (first | (with_reducible first | exact HB.out | apply below_alloc | apply pw_below_drewN | apply below_drew1 | refine below_set ?_ GE217.out) | exact HB.out)⟩⟩
    case rest =>
      clear HC3
      try clear c1
      try clear c2
      try clear c2b0
      try clear c2b1
      try clear p2
      try clear c6
      try clear c7
      try clear c7b0
      try clear c7b1
      try clear c8
      try clear c8b0
      try clear c8b1
      try clear c9
      try clear c9b0
      try clear c13
      try clear c13b0
      try clear c13b1
      try clear c14
      try clear c14b0
      try clear c14b1
      try clear c15
      try clear c15b0
      try clear hcz10_0 hcz10_1 hcz10_10 hcz10_11 hcz10_12 hcz10_13 hcz10_14 hcz10_2 hcz10_3 hcz10_4 hcz10_5 hcz10_6 hcz10_7 hcz10_8 hcz10_9 hfz10_0 hfz10_1 hfz10_10 hfz10_11 hfz10_12 hfz10_13 hfz10_14 hfz10_2 hfz10_3 hfz10_4 hfz10_5 hfz10_6 hfz10_7 hfz10_8 hfz10_9
      try clear hcz11_0 hcz11_1 hcz11_10 hcz11_11 hcz11_12 hcz11_13 hcz11_14 hcz11_2 hcz11_3 hcz11_4 hcz11_5 hcz11_6 hcz11_7 hcz11_8 hcz11_9 hfz11_0 hfz11_1 hfz11_10 hfz11_11 hfz11_12 hfz11_13 hfz11_14 hfz11_2 hfz11_3 hfz11_4 hfz11_5 hfz11_6 hfz11_7 hfz11_8 hfz11_9
      try clear hcz12_0 hcz12_1 hcz12_10 hcz12_11 hcz12_12 hcz12_13 hcz12_14 hcz12_2 hcz12_3 hcz12_4 hcz12_5 hcz12_6 hcz12_7 hcz12_8 hcz12_9 hfz12_0 hfz12_1 hfz12_10 hfz12_11 hfz12_12 hfz12_13 hfz12_14 hfz12_2 hfz12_3 hfz12_4 hfz12_5 hfz12_6 hfz12_7 hfz12_8 hfz12_9
      try clear hcz16_0 hcz16_1 hcz16_10 hcz16_11 hcz16_12 hcz16_13 hcz16_14 hcz16_2 hcz16_3 hcz16_4 hcz16_5 hcz16_6 hcz16_7 hcz16_8 hcz16_9 hfz16_0 hfz16_1 hfz16_10 hfz16_11 hfz16_12 hfz16_13 hfz16_14 hfz16_2 hfz16_3 hfz16_4 hfz16_5 hfz16_6 hfz16_7 hfz16_8 hfz16_9
      try clear hcz17_0 hcz17_1 hcz17_10 hcz17_11 hcz17_12 hcz17_13 hcz17_14 hcz17_2 hcz17_3 hcz17_4 hcz17_5 hcz17_6 hcz17_7 hcz17_8 hcz17_9 hfz17_0 hfz17_1 hfz17_10 hfz17_11 hfz17_12 hfz17_13 hfz17_14 hfz17_2 hfz17_3 hfz17_4 hfz17_5 hfz17_6 hfz17_7 hfz17_8 hfz17_9
      try clear hcz18_0 hcz18_1 hcz18_10 hcz18_11 hcz18_12 hcz18_13 hcz18_14 hcz18_2 hcz18_3 hcz18_4 hcz18_5 hcz18_6 hcz18_7 hcz18_8 hcz18_9 hfz18_0 hfz18_1 hfz18_10 hfz18_11 hfz18_12 hfz18_13 hfz18_14 hfz18_2 hfz18_3 hfz18_4 hfz18_5 hfz18_6 hfz18_7 hfz18_8 hfz18_9
      try clear hcz19_0 hcz19_1 hcz19_10 hcz19_11 hcz19_12 hcz19_13 hcz19_14 hcz19_2 hcz19_3 hcz19_4 hcz19_5 hcz19_6 hcz19_7 hcz19_8 hcz19_9 hfz19_0 hfz19_1 hfz19_10 hfz19_11 hfz19_12 hfz19_13 hfz19_14 hfz19_2 hfz19_3 hfz19_4 hfz19_5 hfz19_6 hfz19_7 hfz19_8 hfz19_9
      try clear hcz5_0 hcz5_1 hcz5_10 hcz5_11 hcz5_12 hcz5_13 hcz5_14 hcz5_2 hcz5_3 hcz5_4 hcz5_5 hcz5_6 hcz5_7 hcz5_8 hcz5_9 hfz5_0 hfz5_1 hfz5_10 hfz5_11 hfz5_12 hfz5_13 hfz5_14 hfz5_2 hfz5_3 hfz5_4 hfz5_5 hfz5_6 hfz5_7 hfz5_8 hfz5_9
      obtain ⟨kq, x3_2, rfl, HA, HJ2, BK217, HB⟩ := hcut
      cases kq with
      | zero => exact absurd HA.out (by simp [typecaseref18_Classes.j0])
      | succ kj2 =>
        have H := HA.out
        clear HA
        simp only [typecaseref18_Classes.j0] at H
        by_cases c20 : a0_13 = true
        · subst c20
          have H1 : (if x3_2 = true then (some (([2, 4, 8] : List Int))) else (some (([4, 8] : List Int)))) = some r := by rw [if_pos rfl] at H; exact H
          clear H
          have H := H1
          clear H1
          by_cases c21 : x3_2 = true
          · subst c21
            have H1 : (some (([2, 4, 8] : List Int))) = some r := by rw [if_pos rfl] at H; exact H
            clear H
            have H := H1
            clear H1
            obtain ⟨y218, hy218⟩ : ∃ y_ : List Int, y_ = (([2, 4, 8] : List Int)) := ⟨_, rfl⟩
            replace H : (some y218) = some r := by first | (rw [hy218]; with_reducible exact H) | (have H2_ := (Option.bind_some _ _).symm.trans H; rw [hy218]; with_reducible exact H2_) | (have H2_ := (Option.bind_some _ _).symm.trans H; with_reducible exact H2_) | with_reducible exact H | (rw [hy218]; exact H) | exact H
            have Ny218 := Aside0.mk hy218
            clear hy218
            obtain rfl := Option.some.inj H
            have hcz22_0 : wc.cell? ⟨gb217, 0, none⟩ = some (.int .i64 a0_0) := (blk_cell BK217.out 0).trans rfl
            have hcz22_1 : wc.cell? ⟨gb217, 1, none⟩ = some (.int .i64 a0_1) := (blk_cell BK217.out 1).trans rfl
            have hcz22_2 : wc.cell? ⟨gb217, 2, none⟩ = some (.int .i64 a0_2) := (blk_cell BK217.out 2).trans rfl
            have hcz22_3 : wc.cell? ⟨gb217, 3, none⟩ = some (.string a0_3) := (blk_cell BK217.out 3).trans rfl
            have hcz22_4 : wc.cell? ⟨gb217, 4, none⟩ = some (.int .i64 a0_4) := (blk_cell BK217.out 4).trans rfl
            have hcz22_5 : wc.cell? ⟨gb217, 5, none⟩ = some (.int .i64 a0_5) := (blk_cell BK217.out 5).trans rfl
            have hcz22_6 : wc.cell? ⟨gb217, 6, none⟩ = some (.int .i64 a0_6) := (blk_cell BK217.out 6).trans rfl
            have hcz22_7 : wc.cell? ⟨gb217, 7, none⟩ = some (.int .i64 a0_7) := (blk_cell BK217.out 7).trans rfl
            have hcz22_8 : wc.cell? ⟨gb217, 8, none⟩ = some (.int .i32 a0_8) := (blk_cell BK217.out 8).trans rfl
            have hcz22_9 : wc.cell? ⟨gb217, 9, none⟩ = some (.string a0_9) := (blk_cell BK217.out 9).trans rfl
            have hcz22_10 : wc.cell? ⟨gb217, 10, none⟩ = some (.int .i64 a0_10) := (blk_cell BK217.out 10).trans rfl
            have hcz22_11 : wc.cell? ⟨gb217, 11, none⟩ = some (.slice A0_11 l0_11.length c0_11) := (blk_cell BK217.out 11).trans rfl
            have hcz22_12 : wc.cell? ⟨gb217, 12, none⟩ = some (.int .u32 a0_12) := (blk_cell BK217.out 12).trans rfl
            have hcz22_13 : wc.cell? ⟨gb217, 13, none⟩ = some (.bool true) := (blk_cell BK217.out 13).trans rfl
            have hcz22_14 : wc.cell? ⟨gb217, 14, none⟩ = some (.bool a0_14) := (blk_cell BK217.out 14).trans rfl
            have hfz22_0 := blk_frozen BK217.out 0
            have hfz22_1 := blk_frozen BK217.out 1
            have hfz22_2 := blk_frozen BK217.out 2
            have hfz22_3 := blk_frozen BK217.out 3
            have hfz22_4 := blk_frozen BK217.out 4
            have hfz22_5 := blk_frozen BK217.out 5
            have hfz22_6 := blk_frozen BK217.out 6
            have hfz22_7 := blk_frozen BK217.out 7
            have hfz22_8 := blk_frozen BK217.out 8
            have hfz22_9 := blk_frozen BK217.out 9
            have hfz22_10 := blk_frozen BK217.out 10
            have hfz22_11 := blk_frozen BK217.out 11
            have hfz22_12 := blk_frozen BK217.out 12
            have hfz22_13 := blk_frozen BK217.out 13
            have hfz22_14 := blk_frozen BK217.out 14
            go_wp2_with (first | ((with_reducible refine gate_dst (N := 46) rfl ?_); refine Kd.R_lit (Kd.int .i64) _ 3 ?hg (N := 46) ?hd (xs := ([2, 4, 8] : List Int)) (inner := [.int .i64 2, .int .i64 4, .int .i64 8]) (ok := fun _ => True) (okp := fun _ => True) ?hr ?hp (fun _ hk => hk) trivial (Below.refl _ _) (Nat.le_refl _) (by simp) ?_; (case hd => rfl); (case hg => rfl); (case hr => first | (go_simp; done) | (go_simp; rfl)); (case hp => exact (Reps.one (show Kd.M (Kd.int .i64) _ _ _ 2 [.int .i64 2] from rfl) (Reps.one (show Kd.M (Kd.int .i64) _ _ _ 4 [.int .i64 4] from rfl) (Reps.one (show Kd.M (Kd.int .i64) _ _ _ 8 [.int .i64 8] from rfl) (Reps.none _ _))))); intro v219 w23 ho24 hb hg_ hnew_; clear hg_ hnew_; (first | rw [← Ny218.out] at ho24 | (simp only [Int.reduceToNat] at ho24; rw [← Ny218.out] at ho24)); have n0_ := Aside0.mk (Kd.R_lower ho24 (below_size (by repeat (first | (with_reducible first | exact HB.out | apply below_alloc | apply pw_below_drewN | apply below_drew1 | refine below_set ?_ GE217.out) | exact HB.out)))); have n1_ := Aside0.mk (blk_below (g := gb217) (o := .cells #[.int .i64 a0_0, .int .i64 a0_1, .int .i64 a0_2, .string a0_3, .int .i64 a0_4, .int .i64 a0_5, .int .i64 a0_6, .int .i64 a0_7, .int .i32 a0_8, .string a0_9, .int .i64 a0_10, .slice A0_11 l0_11.length c0_11, .int .u32 a0_12, .bool true, .bool a0_14] 27 (0, 0)) (by (with_reducible repeat (first | refine blk_drewN ?_ _ | refine blk_drew ?_ | refine blk_alloc ?_ _)); exact BK217.out) hb); have n2_ := Aside0.mk (below_step (by repeat (first | (with_reducible first | exact HB.out | apply below_alloc | apply pw_below_drewN | apply below_drew1 | refine below_set ?_ GE217.out) | exact HB.out)) hb); clear BK217; clear HB; have HO220 := n0_; have BK217 := n1_; have HB := n2_; clear n0_ n1_ n2_; clear hb ho24))
            go_ret
            exact ⟨_, by first | rfl | (simp [errW_none, errW_some] <;> rfl) | (simp [*, errW_none, errW_some] <;> rfl), by (with_reducible repeat (first | apply Kd.R_alloc | apply Kd.R_drewN | apply Kd.R_drew)); exact HO220.out, by repeat (first | (with_reducible first | exact HB.out | apply below_alloc | apply pw_below_drewN | apply below_drew1 | refine below_set ?_ GE217.out) | exact HB.out)⟩
          · replace c21 := Bool.eq_false_iff.mpr c21
            subst c21
            have H1 : (some (([4, 8] : List Int))) = some r := by rw [if_neg (show ¬ (false = true) by decide)] at H; exact H
            clear H
            have H := H1
            clear H1
            obtain ⟨y221, hy221⟩ : ∃ y_ : List Int, y_ = (([4, 8] : List Int)) := ⟨_, rfl⟩
            replace H : (some y221) = some r := by first | (rw [hy221]; with_reducible exact H) | (have H2_ := (Option.bind_some _ _).symm.trans H; rw [hy221]; with_reducible exact H2_) | (have H2_ := (Option.bind_some _ _).symm.trans H; with_reducible exact H2_) | with_reducible exact H | (rw [hy221]; exact H) | exact H
            have Ny221 := Aside0.mk hy221
            clear hy221
            obtain rfl := Option.some.inj H
            have hcz25_0 : wc.cell? ⟨gb217, 0, none⟩ = some (.int .i64 a0_0) := (blk_cell BK217.out 0).trans rfl
            have hcz25_1 : wc.cell? ⟨gb217, 1, none⟩ = some (.int .i64 a0_1) := (blk_cell BK217.out 1).trans rfl
            have hcz25_2 : wc.cell? ⟨gb217, 2, none⟩ = some (.int .i64 a0_2) := (blk_cell BK217.out 2).trans rfl
            have hcz25_3 : wc.cell? ⟨gb217, 3, none⟩ = some (.string a0_3) := (blk_cell BK217.out 3).trans rfl
            have hcz25_4 : wc.cell? ⟨gb217, 4, none⟩ = some (.int .i64 a0_4) := (blk_cell BK217.out 4).trans rfl
            have hcz25_5 : wc.cell? ⟨gb217, 5, none⟩ = some (.int .i64 a0_5) := (blk_cell BK217.out 5).trans rfl
            have hcz25_6 : wc.cell? ⟨gb217, 6, none⟩ = some (.int .i64 a0_6) := (blk_cell BK217.out 6).trans rfl
            have hcz25_7 : wc.cell? ⟨gb217, 7, none⟩ = some (.int .i64 a0_7) := (blk_cell BK217.out 7).trans rfl
            have hcz25_8 : wc.cell? ⟨gb217, 8, none⟩ = some (.int .i32 a0_8) := (blk_cell BK217.out 8).trans rfl
            have hcz25_9 : wc.cell? ⟨gb217, 9, none⟩ = some (.string a0_9) := (blk_cell BK217.out 9).trans rfl
            have hcz25_10 : wc.cell? ⟨gb217, 10, none⟩ = some (.int .i64 a0_10) := (blk_cell BK217.out 10).trans rfl
            have hcz25_11 : wc.cell? ⟨gb217, 11, none⟩ = some (.slice A0_11 l0_11.length c0_11) := (blk_cell BK217.out 11).trans rfl
            have hcz25_12 : wc.cell? ⟨gb217, 12, none⟩ = some (.int .u32 a0_12) := (blk_cell BK217.out 12).trans rfl
            have hcz25_13 : wc.cell? ⟨gb217, 13, none⟩ = some (.bool true) := (blk_cell BK217.out 13).trans rfl
            have hcz25_14 : wc.cell? ⟨gb217, 14, none⟩ = some (.bool a0_14) := (blk_cell BK217.out 14).trans rfl
            have hfz25_0 := blk_frozen BK217.out 0
            have hfz25_1 := blk_frozen BK217.out 1
            have hfz25_2 := blk_frozen BK217.out 2
            have hfz25_3 := blk_frozen BK217.out 3
            have hfz25_4 := blk_frozen BK217.out 4
            have hfz25_5 := blk_frozen BK217.out 5
            have hfz25_6 := blk_frozen BK217.out 6
            have hfz25_7 := blk_frozen BK217.out 7
            have hfz25_8 := blk_frozen BK217.out 8
            have hfz25_9 := blk_frozen BK217.out 9
            have hfz25_10 := blk_frozen BK217.out 10
            have hfz25_11 := blk_frozen BK217.out 11
            have hfz25_12 := blk_frozen BK217.out 12
            have hfz25_13 := blk_frozen BK217.out 13
            have hfz25_14 := blk_frozen BK217.out 14
            go_wp2_with (first | ((with_reducible refine gate_dst (N := 47) rfl ?_); refine Kd.R_lit (Kd.int .i64) _ 3 ?hg (N := 47) ?hd (xs := ([4, 8] : List Int)) (inner := [.int .i64 4, .int .i64 8]) (ok := fun _ => True) (okp := fun _ => True) ?hr ?hp (fun _ hk => hk) trivial (Below.refl _ _) (Nat.le_refl _) (by simp) ?_; (case hd => rfl); (case hg => rfl); (case hr => first | (go_simp; done) | (go_simp; rfl)); (case hp => exact (Reps.one (show Kd.M (Kd.int .i64) _ _ _ 4 [.int .i64 4] from rfl) (Reps.one (show Kd.M (Kd.int .i64) _ _ _ 8 [.int .i64 8] from rfl) (Reps.none _ _)))); intro v222 w26 ho27 hb hg_ hnew_; clear hg_ hnew_; (first | rw [← Ny221.out] at ho27 | (simp only [Int.reduceToNat] at ho27; rw [← Ny221.out] at ho27)); have n0_ := Aside0.mk (Kd.R_lower ho27 (below_size (by repeat (first | (with_reducible first | exact HB.out | apply below_alloc | apply pw_below_drewN | apply below_drew1 | refine below_set ?_ GE217.out) | exact HB.out)))); have n1_ := Aside0.mk (blk_below (g := gb217) (o := .cells #[.int .i64 a0_0, .int .i64 a0_1, .int .i64 a0_2, .string a0_3, .int .i64 a0_4, .int .i64 a0_5, .int .i64 a0_6, .int .i64 a0_7, .int .i32 a0_8, .string a0_9, .int .i64 a0_10, .slice A0_11 l0_11.length c0_11, .int .u32 a0_12, .bool true, .bool a0_14] 27 (0, 0)) (by (with_reducible repeat (first | refine blk_drewN ?_ _ | refine blk_drew ?_ | refine blk_alloc ?_ _)); exact BK217.out) hb); have n2_ := Aside0.mk (below_step (by repeat (first | (with_reducible first | exact HB.out | apply below_alloc | apply pw_below_drewN | apply below_drew1 | refine below_set ?_ GE217.out) | exact HB.out)) hb); clear BK217; clear HB; have HO223 := n0_; have BK217 := n1_; have HB := n2_; clear n0_ n1_ n2_; clear hb ho27))
            go_ret
            exact ⟨_, by first | rfl | (simp [errW_none, errW_some] <;> rfl) | (simp [*, errW_none, errW_some] <;> rfl), by (with_reducible repeat (first | apply Kd.R_alloc | apply Kd.R_drewN | apply Kd.R_drew)); exact HO223.out, by repeat (first | (with_reducible first | exact HB.out | apply below_alloc | apply pw_below_drewN | apply below_drew1 | refine below_set ?_ GE217.out) | exact HB.out)⟩
        · replace c20 := Bool.eq_false_iff.mpr c20
          subst c20
          have H1 : (some (([4] : List Int))) = some r := by rw [if_neg (show ¬ (false = true) by decide)] at H; exact H
          clear H
          have H := H1
          clear H1
          obtain ⟨y224, hy224⟩ : ∃ y_ : List Int, y_ = (([4] : List Int)) := ⟨_, rfl⟩
          replace H : (some y224) = some r := by first | (rw [hy224]; with_reducible exact H) | (have H2_ := (Option.bind_some _ _).symm.trans H; rw [hy224]; with_reducible exact H2_) | (have H2_ := (Option.bind_some _ _).symm.trans H; with_reducible exact H2_) | with_reducible exact H | (rw [hy224]; exact H) | exact H
          have Ny224 := Aside0.mk hy224
          clear hy224
          obtain rfl := Option.some.inj H
          have hcz28_0 : wc.cell? ⟨gb217, 0, none⟩ = some (.int .i64 a0_0) := (blk_cell BK217.out 0).trans rfl
          have hcz28_1 : wc.cell? ⟨gb217, 1, none⟩ = some (.int .i64 a0_1) := (blk_cell BK217.out 1).trans rfl
          have hcz28_2 : wc.cell? ⟨gb217, 2, none⟩ = some (.int .i64 a0_2) := (blk_cell BK217.out 2).trans rfl
          have hcz28_3 : wc.cell? ⟨gb217, 3, none⟩ = some (.string a0_3) := (blk_cell BK217.out 3).trans rfl
          have hcz28_4 : wc.cell? ⟨gb217, 4, none⟩ = some (.int .i64 a0_4) := (blk_cell BK217.out 4).trans rfl
          have hcz28_5 : wc.cell? ⟨gb217, 5, none⟩ = some (.int .i64 a0_5) := (blk_cell BK217.out 5).trans rfl
          have hcz28_6 : wc.cell? ⟨gb217, 6, none⟩ = some (.int .i64 a0_6) := (blk_cell BK217.out 6).trans rfl
          have hcz28_7 : wc.cell? ⟨gb217, 7, none⟩ = some (.int .i64 a0_7) := (blk_cell BK217.out 7).trans rfl
          have hcz28_8 : wc.cell? ⟨gb217, 8, none⟩ = some (.int .i32 a0_8) := (blk_cell BK217.out 8).trans rfl
          have hcz28_9 : wc.cell? ⟨gb217, 9, none⟩ = some (.string a0_9) := (blk_cell BK217.out 9).trans rfl
          have hcz28_10 : wc.cell? ⟨gb217, 10, none⟩ = some (.int .i64 a0_10) := (blk_cell BK217.out 10).trans rfl
          have hcz28_11 : wc.cell? ⟨gb217, 11, none⟩ = some (.slice A0_11 l0_11.length c0_11) := (blk_cell BK217.out 11).trans rfl
          have hcz28_12 : wc.cell? ⟨gb217, 12, none⟩ = some (.int .u32 a0_12) := (blk_cell BK217.out 12).trans rfl
          have hcz28_13 : wc.cell? ⟨gb217, 13, none⟩ = some (.bool false) := (blk_cell BK217.out 13).trans rfl
          have hcz28_14 : wc.cell? ⟨gb217, 14, none⟩ = some (.bool a0_14) := (blk_cell BK217.out 14).trans rfl
          have hfz28_0 := blk_frozen BK217.out 0
          have hfz28_1 := blk_frozen BK217.out 1
          have hfz28_2 := blk_frozen BK217.out 2
          have hfz28_3 := blk_frozen BK217.out 3
          have hfz28_4 := blk_frozen BK217.out 4
          have hfz28_5 := blk_frozen BK217.out 5
          have hfz28_6 := blk_frozen BK217.out 6
          have hfz28_7 := blk_frozen BK217.out 7
          have hfz28_8 := blk_frozen BK217.out 8
          have hfz28_9 := blk_frozen BK217.out 9
          have hfz28_10 := blk_frozen BK217.out 10
          have hfz28_11 := blk_frozen BK217.out 11
          have hfz28_12 := blk_frozen BK217.out 12
          have hfz28_13 := blk_frozen BK217.out 13
          have hfz28_14 := blk_frozen BK217.out 14
          go_wp2_with (first | ((with_reducible refine gate_dst (N := 44) rfl ?_); refine Kd.R_lit (Kd.int .i64) _ 3 ?hg (N := 44) ?hd (xs := ([4] : List Int)) (inner := [.int .i64 4]) (ok := fun _ => True) (okp := fun _ => True) ?hr ?hp (fun _ hk => hk) trivial (Below.refl _ _) (Nat.le_refl _) (by simp) ?_; (case hd => rfl); (case hg => rfl); (case hr => first | (go_simp; done) | (go_simp; rfl)); (case hp => exact (Reps.one (show Kd.M (Kd.int .i64) _ _ _ 4 [.int .i64 4] from rfl) (Reps.none _ _))); intro v225 w29 ho30 hb hg_ hnew_; clear hg_ hnew_; (first | rw [← Ny224.out] at ho30 | (simp only [Int.reduceToNat] at ho30; rw [← Ny224.out] at ho30)); have n0_ := Aside0.mk (Kd.R_lower ho30 (below_size (by repeat (first | (with_reducible first | exact HB.out | apply below_alloc | apply pw_below_drewN | apply below_drew1 | refine below_set ?_ GE217.out) | exact HB.out)))); have n1_ := Aside0.mk (blk_below (g := gb217) (o := .cells #[.int .i64 a0_0, .int .i64 a0_1, .int .i64 a0_2, .string a0_3, .int .i64 a0_4, .int .i64 a0_5, .int .i64 a0_6, .int .i64 a0_7, .int .i32 a0_8, .string a0_9, .int .i64 a0_10, .slice A0_11 l0_11.length c0_11, .int .u32 a0_12, .bool false, .bool a0_14] 27 (0, 0)) (by (with_reducible repeat (first | refine blk_drewN ?_ _ | refine blk_drew ?_ | refine blk_alloc ?_ _)); exact BK217.out) hb); have n2_ := Aside0.mk (below_step (by repeat (first | (with_reducible first | exact HB.out | apply below_alloc | apply pw_below_drewN | apply below_drew1 | refine below_set ?_ GE217.out) | exact HB.out)) hb); clear BK217; clear HB; have HO226 := n0_; have BK217 := n1_; have HB := n2_; clear n0_ n1_ n2_; clear hb ho30))
          go_ret
          exact ⟨_, by first | rfl | (simp [errW_none, errW_some] <;> rfl) | (simp [*, errW_none, errW_some] <;> rfl), by (with_reducible repeat (first | apply Kd.R_alloc | apply Kd.R_drewN | apply Kd.R_drew)); exact HO226.out, by repeat (first | (with_reducible first | exact HB.out | apply below_alloc | apply pw_below_drewN | apply below_drew1 | refine below_set ?_ GE217.out) | exact HB.out)⟩
  · rw [if_neg c2] at H
    have c2b0 : (a0_0 == 4) = false := beq_eq_false_iff_ne.mpr c2
    have c2b1 : (a0_0 != 4) = true := bne_iff_ne.mpr c2
    by_cases c31 : a0_0 = 5
    · rw [if_pos c31] at H
      have c31b0 : (a0_0 == 5) = true := beq_iff_eq.mpr c31
      have c31b1 : (a0_0 != 5) = false := bne_eq_false_iff_eq.mpr c31
      clear c31
      by_cases c32 : a0_13 = true
      · subst c32
        have H1 : (if a0_14 = true then (some (([2, 4] : List Int))) else (some (([4] : List Int)))) = some r := by rw [if_pos rfl] at H; exact H
        clear H
        have H := H1
        clear H1
        by_cases c33 : a0_14 = true
        · subst c33
          have H1 : (some (([2, 4] : List Int))) = some r := by rw [if_pos rfl] at H; exact H
          clear H
          have H := H1
          clear H1
          obtain ⟨y227, hy227⟩ : ∃ y_ : List Int, y_ = (([2, 4] : List Int)) := ⟨_, rfl⟩
          replace H : (some y227) = some r := by first | (rw [hy227]; with_reducible exact H) | (have H2_ := (Option.bind_some _ _).symm.trans H; rw [hy227]; with_reducible exact H2_) | (have H2_ := (Option.bind_some _ _).symm.trans H; with_reducible exact H2_) | with_reducible exact H | (rw [hy227]; exact H) | exact H
          have Ny227 := Aside0.mk hy227
          clear hy227
          obtain rfl := Option.some.inj H
          go_enter Try.func14, Try.ntmps14
          go_wp2_with (first | ((with_reducible refine gate_dst (N := 1) rfl ?_); refine box_event ?hg (N := 1) ?hd (cs := #[.int .i64 a0_0, .int .i64 a0_1, .int .i64 a0_2, .string a0_3, .int .i64 a0_4, .int .i64 a0_5, .int .i64 a0_6, .int .i64 a0_7, .int .i32 a0_8, .string a0_9, .int .i64 a0_10, .slice A0_11 l0_11.length c0_11, .int .u32 a0_12, .bool true, .bool true]) (t := 27) ?hr ?_; (case hd => rfl); (case hg => rfl); (case hr => first | (go_simp; done) | (go_simp; rfl)); intro gb217 hg w34 hbox hb; have n0_ := Aside0.mk (below_step (by repeat (first | (with_reducible first | exact HB.out | apply below_alloc | apply pw_below_drewN | apply below_drew1) | exact HB.out)) hb); have n1_ := Aside0.mk (hbox); have n2_ := Aside0.mk ((by rw [hg]; exact (below_size (by repeat (first | (with_reducible first | exact HB.out | apply below_alloc | apply pw_below_drewN | apply below_drew1) | exact HB.out))) : w.heap.size ≤ gb217)); have n3_ := Aside0.mk ((by rw [hg]; exact (below_size (by repeat (first | (with_reducible first | exact HB.out | apply below_alloc | apply pw_below_drewN | apply below_drew1) | exact HB.out))) : w.heap.size ≤ gb217)); clear HB; have HB := n0_; have BK217 := n1_; have GW217 := n2_; have GE217 := n3_; clear n0_ n1_ n2_ n3_; clear hb hbox hg; have hcz35_0 : w34.cell? ⟨gb217, 0, none⟩ = some (.int .i64 a0_0) := (blk_cell BK217.out 0).trans rfl; have hcz35_1 : w34.cell? ⟨gb217, 1, none⟩ = some (.int .i64 a0_1) := (blk_cell BK217.out 1).trans rfl; have hcz35_2 : w34.cell? ⟨gb217, 2, none⟩ = some (.int .i64 a0_2) := (blk_cell BK217.out 2).trans rfl; have hcz35_3 : w34.cell? ⟨gb217, 3, none⟩ = some (.string a0_3) := (blk_cell BK217.out 3).trans rfl; have hcz35_4 : w34.cell? ⟨gb217, 4, none⟩ = some (.int .i64 a0_4) := (blk_cell BK217.out 4).trans rfl; have hcz35_5 : w34.cell? ⟨gb217, 5, none⟩ = some (.int .i64 a0_5) := (blk_cell BK217.out 5).trans rfl; have hcz35_6 : w34.cell? ⟨gb217, 6, none⟩ = some (.int .i64 a0_6) := (blk_cell BK217.out 6).trans rfl; have hcz35_7 : w34.cell? ⟨gb217, 7, none⟩ = some (.int .i64 a0_7) := (blk_cell BK217.out 7).trans rfl; have hcz35_8 : w34.cell? ⟨gb217, 8, none⟩ = some (.int .i32 a0_8) := (blk_cell BK217.out 8).trans rfl; have hcz35_9 : w34.cell? ⟨gb217, 9, none⟩ = some (.string a0_9) := (blk_cell BK217.out 9).trans rfl; have hcz35_10 : w34.cell? ⟨gb217, 10, none⟩ = some (.int .i64 a0_10) := (blk_cell BK217.out 10).trans rfl; have hcz35_11 : w34.cell? ⟨gb217, 11, none⟩ = some (.slice A0_11 l0_11.length c0_11) := (blk_cell BK217.out 11).trans rfl; have hcz35_12 : w34.cell? ⟨gb217, 12, none⟩ = some (.int .u32 a0_12) := (blk_cell BK217.out 12).trans rfl; have hcz35_13 : w34.cell? ⟨gb217, 13, none⟩ = some (.bool true) := (blk_cell BK217.out 13).trans rfl; have hcz35_14 : w34.cell? ⟨gb217, 14, none⟩ = some (.bool true) := (blk_cell BK217.out 14).trans rfl; have hfz35_0 := blk_frozen BK217.out 0; have hfz35_1 := blk_frozen BK217.out 1; have hfz35_2 := blk_frozen BK217.out 2; have hfz35_3 := blk_frozen BK217.out 3; have hfz35_4 := blk_frozen BK217.out 4; have hfz35_5 := blk_frozen BK217.out 5; have hfz35_6 := blk_frozen BK217.out 6; have hfz35_7 := blk_frozen BK217.out 7; have hfz35_8 := blk_frozen BK217.out 8; have hfz35_9 := blk_frozen BK217.out 9; have hfz35_10 := blk_frozen BK217.out 10; have hfz35_11 := blk_frozen BK217.out 11; have hfz35_12 := blk_frozen BK217.out 12; have hfz35_13 := blk_frozen BK217.out 13; have hfz35_14 := blk_frozen BK217.out 14) | ((with_reducible refine gate_dst (N := 55) rfl ?_); refine Kd.R_lit (Kd.int .i64) _ 3 ?hg (N := 55) ?hd (xs := ([2, 4] : List Int)) (inner := [.int .i64 2, .int .i64 4]) (ok := fun _ => True) (okp := fun _ => True) ?hr ?hp (fun _ hk => hk) trivial (Below.refl _ _) (Nat.le_refl _) (by simp) ?_; (case hd => rfl); (case hg => rfl); (case hr => first | (go_simp; done) | (go_simp; rfl)); (case hp => exact (Reps.one (show Kd.M (Kd.int .i64) _ _ _ 2 [.int .i64 2] from rfl) (Reps.one (show Kd.M (Kd.int .i64) _ _ _ 4 [.int .i64 4] from rfl) (Reps.none _ _)))); intro v228 w36 ho37 hb hg_ hnew_; clear hg_ hnew_; (first | rw [← Ny227.out] at ho37 | (simp only [Int.reduceToNat] at ho37; rw [← Ny227.out] at ho37)); have n0_ := Aside0.mk (Kd.R_lower ho37 (below_size (by repeat (first | (with_reducible first | exact HB.out | apply below_alloc | apply pw_below_drewN | apply below_drew1 | refine below_set ?_ GE217.out) | exact HB.out)))); have n1_ := Aside0.mk (blk_below (g := gb217) (o := .cells #[.int .i64 a0_0, .int .i64 a0_1, .int .i64 a0_2, .string a0_3, .int .i64 a0_4, .int .i64 a0_5, .int .i64 a0_6, .int .i64 a0_7, .int .i32 a0_8, .string a0_9, .int .i64 a0_10, .slice A0_11 l0_11.length c0_11, .int .u32 a0_12, .bool true, .bool true] 27 (0, 0)) (by (with_reducible repeat (first | refine blk_drewN ?_ _ | refine blk_drew ?_ | refine blk_alloc ?_ _)); exact BK217.out) hb); have n2_ := Aside0.mk (below_step (by repeat (first | (with_reducible first | exact HB.out | apply below_alloc | apply pw_below_drewN | apply below_drew1 | refine below_set ?_ GE217.out) | exact HB.out)) hb); clear BK217; clear HB; have HO229 := n0_; have BK217 := n1_; have HB := n2_; clear n0_ n1_ n2_; clear hb ho37))
          go_ret
          exact ⟨_, by first | rfl | (simp [errW_none, errW_some] <;> rfl) | (simp [*, errW_none, errW_some] <;> rfl), by (with_reducible repeat (first | apply Kd.R_alloc | apply Kd.R_drewN | apply Kd.R_drew)); exact HO229.out, by repeat (first | (with_reducible first | exact HB.out | apply below_alloc | apply pw_below_drewN | apply below_drew1 | refine below_set ?_ GE217.out) | exact HB.out)⟩
        · replace c33 := Bool.eq_false_iff.mpr c33
          subst c33
          have H1 : (some (([4] : List Int))) = some r := by rw [if_neg (show ¬ (false = true) by decide)] at H; exact H
          clear H
          have H := H1
          clear H1
          obtain ⟨y230, hy230⟩ : ∃ y_ : List Int, y_ = (([4] : List Int)) := ⟨_, rfl⟩
          replace H : (some y230) = some r := by first | (rw [hy230]; with_reducible exact H) | (have H2_ := (Option.bind_some _ _).symm.trans H; rw [hy230]; with_reducible exact H2_) | (have H2_ := (Option.bind_some _ _).symm.trans H; with_reducible exact H2_) | with_reducible exact H | (rw [hy230]; exact H) | exact H
          have Ny230 := Aside0.mk hy230
          clear hy230
          obtain rfl := Option.some.inj H
          go_enter Try.func14, Try.ntmps14
          go_wp2_with (first | ((with_reducible refine gate_dst (N := 1) rfl ?_); refine box_event ?hg (N := 1) ?hd (cs := #[.int .i64 a0_0, .int .i64 a0_1, .int .i64 a0_2, .string a0_3, .int .i64 a0_4, .int .i64 a0_5, .int .i64 a0_6, .int .i64 a0_7, .int .i32 a0_8, .string a0_9, .int .i64 a0_10, .slice A0_11 l0_11.length c0_11, .int .u32 a0_12, .bool true, .bool false]) (t := 27) ?hr ?_; (case hd => rfl); (case hg => rfl); (case hr => first | (go_simp; done) | (go_simp; rfl)); intro gb217 hg w38 hbox hb; have n0_ := Aside0.mk (below_step (by repeat (first | (with_reducible first | exact HB.out | apply below_alloc | apply pw_below_drewN | apply below_drew1) | exact HB.out)) hb); have n1_ := Aside0.mk (hbox); have n2_ := Aside0.mk ((by rw [hg]; exact (below_size (by repeat (first | (with_reducible first | exact HB.out | apply below_alloc | apply pw_below_drewN | apply below_drew1) | exact HB.out))) : w.heap.size ≤ gb217)); have n3_ := Aside0.mk ((by rw [hg]; exact (below_size (by repeat (first | (with_reducible first | exact HB.out | apply below_alloc | apply pw_below_drewN | apply below_drew1) | exact HB.out))) : w.heap.size ≤ gb217)); clear HB; have HB := n0_; have BK217 := n1_; have GW217 := n2_; have GE217 := n3_; clear n0_ n1_ n2_ n3_; clear hb hbox hg; have hcz39_0 : w38.cell? ⟨gb217, 0, none⟩ = some (.int .i64 a0_0) := (blk_cell BK217.out 0).trans rfl; have hcz39_1 : w38.cell? ⟨gb217, 1, none⟩ = some (.int .i64 a0_1) := (blk_cell BK217.out 1).trans rfl; have hcz39_2 : w38.cell? ⟨gb217, 2, none⟩ = some (.int .i64 a0_2) := (blk_cell BK217.out 2).trans rfl; have hcz39_3 : w38.cell? ⟨gb217, 3, none⟩ = some (.string a0_3) := (blk_cell BK217.out 3).trans rfl; have hcz39_4 : w38.cell? ⟨gb217, 4, none⟩ = some (.int .i64 a0_4) := (blk_cell BK217.out 4).trans rfl; have hcz39_5 : w38.cell? ⟨gb217, 5, none⟩ = some (.int .i64 a0_5) := (blk_cell BK217.out 5).trans rfl; have hcz39_6 : w38.cell? ⟨gb217, 6, none⟩ = some (.int .i64 a0_6) := (blk_cell BK217.out 6).trans rfl; have hcz39_7 : w38.cell? ⟨gb217, 7, none⟩ = some (.int .i64 a0_7) := (blk_cell BK217.out 7).trans rfl; have hcz39_8 : w38.cell? ⟨gb217, 8, none⟩ = some (.int .i32 a0_8) := (blk_cell BK217.out 8).trans rfl; have hcz39_9 : w38.cell? ⟨gb217, 9, none⟩ = some (.string a0_9) := (blk_cell BK217.out 9).trans rfl; have hcz39_10 : w38.cell? ⟨gb217, 10, none⟩ = some (.int .i64 a0_10) := (blk_cell BK217.out 10).trans rfl; have hcz39_11 : w38.cell? ⟨gb217, 11, none⟩ = some (.slice A0_11 l0_11.length c0_11) := (blk_cell BK217.out 11).trans rfl; have hcz39_12 : w38.cell? ⟨gb217, 12, none⟩ = some (.int .u32 a0_12) := (blk_cell BK217.out 12).trans rfl; have hcz39_13 : w38.cell? ⟨gb217, 13, none⟩ = some (.bool true) := (blk_cell BK217.out 13).trans rfl; have hcz39_14 : w38.cell? ⟨gb217, 14, none⟩ = some (.bool false) := (blk_cell BK217.out 14).trans rfl; have hfz39_0 := blk_frozen BK217.out 0; have hfz39_1 := blk_frozen BK217.out 1; have hfz39_2 := blk_frozen BK217.out 2; have hfz39_3 := blk_frozen BK217.out 3; have hfz39_4 := blk_frozen BK217.out 4; have hfz39_5 := blk_frozen BK217.out 5; have hfz39_6 := blk_frozen BK217.out 6; have hfz39_7 := blk_frozen BK217.out 7; have hfz39_8 := blk_frozen BK217.out 8; have hfz39_9 := blk_frozen BK217.out 9; have hfz39_10 := blk_frozen BK217.out 10; have hfz39_11 := blk_frozen BK217.out 11; have hfz39_12 := blk_frozen BK217.out 12; have hfz39_13 := blk_frozen BK217.out 13; have hfz39_14 := blk_frozen BK217.out 14) | ((with_reducible refine gate_dst (N := 56) rfl ?_); refine Kd.R_lit (Kd.int .i64) _ 3 ?hg (N := 56) ?hd (xs := ([4] : List Int)) (inner := [.int .i64 4]) (ok := fun _ => True) (okp := fun _ => True) ?hr ?hp (fun _ hk => hk) trivial (Below.refl _ _) (Nat.le_refl _) (by simp) ?_; (case hd => rfl); (case hg => rfl); (case hr => first | (go_simp; done) | (go_simp; rfl)); (case hp => exact (Reps.one (show Kd.M (Kd.int .i64) _ _ _ 4 [.int .i64 4] from rfl) (Reps.none _ _))); intro v231 w40 ho41 hb hg_ hnew_; clear hg_ hnew_; (first | rw [← Ny230.out] at ho41 | (simp only [Int.reduceToNat] at ho41; rw [← Ny230.out] at ho41)); have n0_ := Aside0.mk (Kd.R_lower ho41 (below_size (by repeat (first | (with_reducible first | exact HB.out | apply below_alloc | apply pw_below_drewN | apply below_drew1 | refine below_set ?_ GE217.out) | exact HB.out)))); have n1_ := Aside0.mk (blk_below (g := gb217) (o := .cells #[.int .i64 a0_0, .int .i64 a0_1, .int .i64 a0_2, .string a0_3, .int .i64 a0_4, .int .i64 a0_5, .int .i64 a0_6, .int .i64 a0_7, .int .i32 a0_8, .string a0_9, .int .i64 a0_10, .slice A0_11 l0_11.length c0_11, .int .u32 a0_12, .bool true, .bool false] 27 (0, 0)) (by (with_reducible repeat (first | refine blk_drewN ?_ _ | refine blk_drew ?_ | refine blk_alloc ?_ _)); exact BK217.out) hb); have n2_ := Aside0.mk (below_step (by repeat (first | (with_reducible first | exact HB.out | apply below_alloc | apply pw_below_drewN | apply below_drew1 | refine below_set ?_ GE217.out) | exact HB.out)) hb); clear BK217; clear HB; have HO232 := n0_; have BK217 := n1_; have HB := n2_; clear n0_ n1_ n2_; clear hb ho41))
          go_ret
          exact ⟨_, by first | rfl | (simp [errW_none, errW_some] <;> rfl) | (simp [*, errW_none, errW_some] <;> rfl), by (with_reducible repeat (first | apply Kd.R_alloc | apply Kd.R_drewN | apply Kd.R_drew)); exact HO232.out, by repeat (first | (with_reducible first | exact HB.out | apply below_alloc | apply pw_below_drewN | apply below_drew1 | refine below_set ?_ GE217.out) | exact HB.out)⟩
      · replace c32 := Bool.eq_false_iff.mpr c32
        subst c32
        have H1 : (some (([4] : List Int))) = some r := by rw [if_neg (show ¬ (false = true) by decide)] at H; exact H
        clear H
        have H := H1
        clear H1
        obtain ⟨y233, hy233⟩ : ∃ y_ : List Int, y_ = (([4] : List Int)) := ⟨_, rfl⟩
        replace H : (some y233) = some r := by first | (rw [hy233]; with_reducible exact H) | (have H2_ := (Option.bind_some _ _).symm.trans H; rw [hy233]; with_reducible exact H2_) | (have H2_ := (Option.bind_some _ _).symm.trans H; with_reducible exact H2_) | with_reducible exact H | (rw [hy233]; exact H) | exact H
        have Ny233 := Aside0.mk hy233
        clear hy233
        obtain rfl := Option.some.inj H
        go_enter Try.func14, Try.ntmps14
        go_wp2_with (first | ((with_reducible refine gate_dst (N := 1) rfl ?_); refine box_event ?hg (N := 1) ?hd (cs := #[.int .i64 a0_0, .int .i64 a0_1, .int .i64 a0_2, .string a0_3, .int .i64 a0_4, .int .i64 a0_5, .int .i64 a0_6, .int .i64 a0_7, .int .i32 a0_8, .string a0_9, .int .i64 a0_10, .slice A0_11 l0_11.length c0_11, .int .u32 a0_12, .bool false, .bool a0_14]) (t := 27) ?hr ?_; (case hd => rfl); (case hg => rfl); (case hr => first | (go_simp; done) | (go_simp; rfl)); intro gb217 hg w42 hbox hb; have n0_ := Aside0.mk (below_step (by repeat (first | (with_reducible first | exact HB.out | apply below_alloc | apply pw_below_drewN | apply below_drew1) | exact HB.out)) hb); have n1_ := Aside0.mk (hbox); have n2_ := Aside0.mk ((by rw [hg]; exact (below_size (by repeat (first | (with_reducible first | exact HB.out | apply below_alloc | apply pw_below_drewN | apply below_drew1) | exact HB.out))) : w.heap.size ≤ gb217)); have n3_ := Aside0.mk ((by rw [hg]; exact (below_size (by repeat (first | (with_reducible first | exact HB.out | apply below_alloc | apply pw_below_drewN | apply below_drew1) | exact HB.out))) : w.heap.size ≤ gb217)); clear HB; have HB := n0_; have BK217 := n1_; have GW217 := n2_; have GE217 := n3_; clear n0_ n1_ n2_ n3_; clear hb hbox hg; have hcz43_0 : w42.cell? ⟨gb217, 0, none⟩ = some (.int .i64 a0_0) := (blk_cell BK217.out 0).trans rfl; have hcz43_1 : w42.cell? ⟨gb217, 1, none⟩ = some (.int .i64 a0_1) := (blk_cell BK217.out 1).trans rfl; have hcz43_2 : w42.cell? ⟨gb217, 2, none⟩ = some (.int .i64 a0_2) := (blk_cell BK217.out 2).trans rfl; have hcz43_3 : w42.cell? ⟨gb217, 3, none⟩ = some (.string a0_3) := (blk_cell BK217.out 3).trans rfl; have hcz43_4 : w42.cell? ⟨gb217, 4, none⟩ = some (.int .i64 a0_4) := (blk_cell BK217.out 4).trans rfl; have hcz43_5 : w42.cell? ⟨gb217, 5, none⟩ = some (.int .i64 a0_5) := (blk_cell BK217.out 5).trans rfl; have hcz43_6 : w42.cell? ⟨gb217, 6, none⟩ = some (.int .i64 a0_6) := (blk_cell BK217.out 6).trans rfl; have hcz43_7 : w42.cell? ⟨gb217, 7, none⟩ = some (.int .i64 a0_7) := (blk_cell BK217.out 7).trans rfl; have hcz43_8 : w42.cell? ⟨gb217, 8, none⟩ = some (.int .i32 a0_8) := (blk_cell BK217.out 8).trans rfl; have hcz43_9 : w42.cell? ⟨gb217, 9, none⟩ = some (.string a0_9) := (blk_cell BK217.out 9).trans rfl; have hcz43_10 : w42.cell? ⟨gb217, 10, none⟩ = some (.int .i64 a0_10) := (blk_cell BK217.out 10).trans rfl; have hcz43_11 : w42.cell? ⟨gb217, 11, none⟩ = some (.slice A0_11 l0_11.length c0_11) := (blk_cell BK217.out 11).trans rfl; have hcz43_12 : w42.cell? ⟨gb217, 12, none⟩ = some (.int .u32 a0_12) := (blk_cell BK217.out 12).trans rfl; have hcz43_13 : w42.cell? ⟨gb217, 13, none⟩ = some (.bool false) := (blk_cell BK217.out 13).trans rfl; have hcz43_14 : w42.cell? ⟨gb217, 14, none⟩ = some (.bool a0_14) := (blk_cell BK217.out 14).trans rfl; have hfz43_0 := blk_frozen BK217.out 0; have hfz43_1 := blk_frozen BK217.out 1; have hfz43_2 := blk_frozen BK217.out 2; have hfz43_3 := blk_frozen BK217.out 3; have hfz43_4 := blk_frozen BK217.out 4; have hfz43_5 := blk_frozen BK217.out 5; have hfz43_6 := blk_frozen BK217.out 6; have hfz43_7 := blk_frozen BK217.out 7; have hfz43_8 := blk_frozen BK217.out 8; have hfz43_9 := blk_frozen BK217.out 9; have hfz43_10 := blk_frozen BK217.out 10; have hfz43_11 := blk_frozen BK217.out 11; have hfz43_12 := blk_frozen BK217.out 12; have hfz43_13 := blk_frozen BK217.out 13; have hfz43_14 := blk_frozen BK217.out 14) | ((with_reducible refine gate_dst (N := 56) rfl ?_); refine Kd.R_lit (Kd.int .i64) _ 3 ?hg (N := 56) ?hd (xs := ([4] : List Int)) (inner := [.int .i64 4]) (ok := fun _ => True) (okp := fun _ => True) ?hr ?hp (fun _ hk => hk) trivial (Below.refl _ _) (Nat.le_refl _) (by simp) ?_; (case hd => rfl); (case hg => rfl); (case hr => first | (go_simp; done) | (go_simp; rfl)); (case hp => exact (Reps.one (show Kd.M (Kd.int .i64) _ _ _ 4 [.int .i64 4] from rfl) (Reps.none _ _))); intro v234 w44 ho45 hb hg_ hnew_; clear hg_ hnew_; (first | rw [← Ny233.out] at ho45 | (simp only [Int.reduceToNat] at ho45; rw [← Ny233.out] at ho45)); have n0_ := Aside0.mk (Kd.R_lower ho45 (below_size (by repeat (first | (with_reducible first | exact HB.out | apply below_alloc | apply pw_below_drewN | apply below_drew1 | refine below_set ?_ GE217.out) | exact HB.out)))); have n1_ := Aside0.mk (blk_below (g := gb217) (o := .cells #[.int .i64 a0_0, .int .i64 a0_1, .int .i64 a0_2, .string a0_3, .int .i64 a0_4, .int .i64 a0_5, .int .i64 a0_6, .int .i64 a0_7, .int .i32 a0_8, .string a0_9, .int .i64 a0_10, .slice A0_11 l0_11.length c0_11, .int .u32 a0_12, .bool false, .bool a0_14] 27 (0, 0)) (by (with_reducible repeat (first | refine blk_drewN ?_ _ | refine blk_drew ?_ | refine blk_alloc ?_ _)); exact BK217.out) hb); have n2_ := Aside0.mk (below_step (by repeat (first | (with_reducible first | exact HB.out | apply below_alloc | apply pw_below_drewN | apply below_drew1 | refine below_set ?_ GE217.out) | exact HB.out)) hb); clear BK217; clear HB; have HO235 := n0_; have BK217 := n1_; have HB := n2_; clear n0_ n1_ n2_; clear hb ho45))
        go_ret
        exact ⟨_, by first | rfl | (simp [errW_none, errW_some] <;> rfl) | (simp [*, errW_none, errW_some] <;> rfl), by (with_reducible repeat (first | apply Kd.R_alloc | apply Kd.R_drewN | apply Kd.R_drew)); exact HO235.out, by repeat (first | (with_reducible first | exact HB.out | apply below_alloc | apply pw_below_drewN | apply below_drew1 | refine below_set ?_ GE217.out) | exact HB.out)⟩
    · rw [if_neg c31] at H
      have c31b0 : (a0_0 == 5) = false := beq_eq_false_iff_ne.mpr c31
      have c31b1 : (a0_0 != 5) = true := bne_iff_ne.mpr c31
      by_cases c46 : a0_0 = 6
      · rw [if_pos c46] at H
        have c46b0 : (a0_0 == 6) = true := beq_iff_eq.mpr c46
        have c46b1 : (a0_0 != 6) = false := bne_eq_false_iff_eq.mpr c46
        clear c46
        by_cases c47 : a0_13 = true
        · subst c47
          have H1 : (if a0_14 = true then (some (([2, 4, 8] : List Int))) else (some (([4, 8] : List Int)))) = some r := by rw [if_pos rfl] at H; exact H
          clear H
          have H := H1
          clear H1
          by_cases c48 : a0_14 = true
          · subst c48
            have H1 : (some (([2, 4, 8] : List Int))) = some r := by rw [if_pos rfl] at H; exact H
            clear H
            have H := H1
            clear H1
            obtain ⟨y236, hy236⟩ : ∃ y_ : List Int, y_ = (([2, 4, 8] : List Int)) := ⟨_, rfl⟩
            replace H : (some y236) = some r := by first | (rw [hy236]; with_reducible exact H) | (have H2_ := (Option.bind_some _ _).symm.trans H; rw [hy236]; with_reducible exact H2_) | (have H2_ := (Option.bind_some _ _).symm.trans H; with_reducible exact H2_) | with_reducible exact H | (rw [hy236]; exact H) | exact H
            have Ny236 := Aside0.mk hy236
            clear hy236
            obtain rfl := Option.some.inj H
            go_enter Try.func14, Try.ntmps14
            go_wp2_with (first | ((with_reducible refine gate_dst (N := 1) rfl ?_); refine box_event ?hg (N := 1) ?hd (cs := #[.int .i64 a0_0, .int .i64 a0_1, .int .i64 a0_2, .string a0_3, .int .i64 a0_4, .int .i64 a0_5, .int .i64 a0_6, .int .i64 a0_7, .int .i32 a0_8, .string a0_9, .int .i64 a0_10, .slice A0_11 l0_11.length c0_11, .int .u32 a0_12, .bool true, .bool true]) (t := 27) ?hr ?_; (case hd => rfl); (case hg => rfl); (case hr => first | (go_simp; done) | (go_simp; rfl)); intro gb217 hg w49 hbox hb; have n0_ := Aside0.mk (below_step (by repeat (first | (with_reducible first | exact HB.out | apply below_alloc | apply pw_below_drewN | apply below_drew1) | exact HB.out)) hb); have n1_ := Aside0.mk (hbox); have n2_ := Aside0.mk ((by rw [hg]; exact (below_size (by repeat (first | (with_reducible first | exact HB.out | apply below_alloc | apply pw_below_drewN | apply below_drew1) | exact HB.out))) : w.heap.size ≤ gb217)); have n3_ := Aside0.mk ((by rw [hg]; exact (below_size (by repeat (first | (with_reducible first | exact HB.out | apply below_alloc | apply pw_below_drewN | apply below_drew1) | exact HB.out))) : w.heap.size ≤ gb217)); clear HB; have HB := n0_; have BK217 := n1_; have GW217 := n2_; have GE217 := n3_; clear n0_ n1_ n2_ n3_; clear hb hbox hg; have hcz50_0 : w49.cell? ⟨gb217, 0, none⟩ = some (.int .i64 a0_0) := (blk_cell BK217.out 0).trans rfl; have hcz50_1 : w49.cell? ⟨gb217, 1, none⟩ = some (.int .i64 a0_1) := (blk_cell BK217.out 1).trans rfl; have hcz50_2 : w49.cell? ⟨gb217, 2, none⟩ = some (.int .i64 a0_2) := (blk_cell BK217.out 2).trans rfl; have hcz50_3 : w49.cell? ⟨gb217, 3, none⟩ = some (.string a0_3) := (blk_cell BK217.out 3).trans rfl; have hcz50_4 : w49.cell? ⟨gb217, 4, none⟩ = some (.int .i64 a0_4) := (blk_cell BK217.out 4).trans rfl; have hcz50_5 : w49.cell? ⟨gb217, 5, none⟩ = some (.int .i64 a0_5) := (blk_cell BK217.out 5).trans rfl; have hcz50_6 : w49.cell? ⟨gb217, 6, none⟩ = some (.int .i64 a0_6) := (blk_cell BK217.out 6).trans rfl; have hcz50_7 : w49.cell? ⟨gb217, 7, none⟩ = some (.int .i64 a0_7) := (blk_cell BK217.out 7).trans rfl; have hcz50_8 : w49.cell? ⟨gb217, 8, none⟩ = some (.int .i32 a0_8) := (blk_cell BK217.out 8).trans rfl; have hcz50_9 : w49.cell? ⟨gb217, 9, none⟩ = some (.string a0_9) := (blk_cell BK217.out 9).trans rfl; have hcz50_10 : w49.cell? ⟨gb217, 10, none⟩ = some (.int .i64 a0_10) := (blk_cell BK217.out 10).trans rfl; have hcz50_11 : w49.cell? ⟨gb217, 11, none⟩ = some (.slice A0_11 l0_11.length c0_11) := (blk_cell BK217.out 11).trans rfl; have hcz50_12 : w49.cell? ⟨gb217, 12, none⟩ = some (.int .u32 a0_12) := (blk_cell BK217.out 12).trans rfl; have hcz50_13 : w49.cell? ⟨gb217, 13, none⟩ = some (.bool true) := (blk_cell BK217.out 13).trans rfl; have hcz50_14 : w49.cell? ⟨gb217, 14, none⟩ = some (.bool true) := (blk_cell BK217.out 14).trans rfl; have hfz50_0 := blk_frozen BK217.out 0; have hfz50_1 := blk_frozen BK217.out 1; have hfz50_2 := blk_frozen BK217.out 2; have hfz50_3 := blk_frozen BK217.out 3; have hfz50_4 := blk_frozen BK217.out 4; have hfz50_5 := blk_frozen BK217.out 5; have hfz50_6 := blk_frozen BK217.out 6; have hfz50_7 := blk_frozen BK217.out 7; have hfz50_8 := blk_frozen BK217.out 8; have hfz50_9 := blk_frozen BK217.out 9; have hfz50_10 := blk_frozen BK217.out 10; have hfz50_11 := blk_frozen BK217.out 11; have hfz50_12 := blk_frozen BK217.out 12; have hfz50_13 := blk_frozen BK217.out 13; have hfz50_14 := blk_frozen BK217.out 14) | ((with_reducible refine gate_dst (N := 64) rfl ?_); refine Kd.R_lit (Kd.int .i64) _ 3 ?hg (N := 64) ?hd (xs := ([2, 4, 8] : List Int)) (inner := [.int .i64 2, .int .i64 4, .int .i64 8]) (ok := fun _ => True) (okp := fun _ => True) ?hr ?hp (fun _ hk => hk) trivial (Below.refl _ _) (Nat.le_refl _) (by simp) ?_; (case hd => rfl); (case hg => rfl); (case hr => first | (go_simp; done) | (go_simp; rfl)); (case hp => exact (Reps.one (show Kd.M (Kd.int .i64) _ _ _ 2 [.int .i64 2] from rfl) (Reps.one (show Kd.M (Kd.int .i64) _ _ _ 4 [.int .i64 4] from rfl) (Reps.one (show Kd.M (Kd.int .i64) _ _ _ 8 [.int .i64 8] from rfl) (Reps.none _ _))))); intro v237 w51 ho52 hb hg_ hnew_; clear hg_ hnew_; (first | rw [← Ny236.out] at ho52 | (simp only [Int.reduceToNat] at ho52; rw [← Ny236.out] at ho52)); have n0_ := Aside0.mk (Kd.R_lower ho52 (below_size (by repeat (first | (with_reducible first | exact HB.out | apply below_alloc | apply pw_below_drewN | apply below_drew1 | refine below_set ?_ GE217.out) | exact HB.out)))); have n1_ := Aside0.mk (blk_below (g := gb217) (o := .cells #[.int .i64 a0_0, .int .i64 a0_1, .int .i64 a0_2, .string a0_3, .int .i64 a0_4, .int .i64 a0_5, .int .i64 a0_6, .int .i64 a0_7, .int .i32 a0_8, .string a0_9, .int .i64 a0_10, .slice A0_11 l0_11.length c0_11, .int .u32 a0_12, .bool true, .bool true] 27 (0, 0)) (by (with_reducible repeat (first | refine blk_drewN ?_ _ | refine blk_drew ?_ | refine blk_alloc ?_ _)); exact BK217.out) hb); have n2_ := Aside0.mk (below_step (by repeat (first | (with_reducible first | exact HB.out | apply below_alloc | apply pw_below_drewN | apply below_drew1 | refine below_set ?_ GE217.out) | exact HB.out)) hb); clear BK217; clear HB; have HO238 := n0_; have BK217 := n1_; have HB := n2_; clear n0_ n1_ n2_; clear hb ho52))
            go_ret
            exact ⟨_, by first | rfl | (simp [errW_none, errW_some] <;> rfl) | (simp [*, errW_none, errW_some] <;> rfl), by (with_reducible repeat (first | apply Kd.R_alloc | apply Kd.R_drewN | apply Kd.R_drew)); exact HO238.out, by repeat (first | (with_reducible first | exact HB.out | apply below_alloc | apply pw_below_drewN | apply below_drew1 | refine below_set ?_ GE217.out) | exact HB.out)⟩
          · replace c48 := Bool.eq_false_iff.mpr c48
            subst c48
            have H1 : (some (([4, 8] : List Int))) = some r := by rw [if_neg (show ¬ (false = true) by decide)] at H; exact H
            clear H
            have H := H1
            clear H1
            obtain ⟨y239, hy239⟩ : ∃ y_ : List Int, y_ = (([4, 8] : List Int)) := ⟨_, rfl⟩
            replace H : (some y239) = some r := by first | (rw [hy239]; with_reducible exact H) | (have H2_ := (Option.bind_some _ _).symm.trans H; rw [hy239]; with_reducible exact H2_) | (have H2_ := (Option.bind_some _ _).symm.trans H; with_reducible exact H2_) | with_reducible exact H | (rw [hy239]; exact H) | exact H
            have Ny239 := Aside0.mk hy239
            clear hy239
            obtain rfl := Option.some.inj H
            go_enter Try.func14, Try.ntmps14
            go_wp2_with (first | ((with_reducible refine gate_dst (N := 1) rfl ?_); refine box_event ?hg (N := 1) ?hd (cs := #[.int .i64 a0_0, .int .i64 a0_1, .int .i64 a0_2, .string a0_3, .int .i64 a0_4, .int .i64 a0_5, .int .i64 a0_6, .int .i64 a0_7, .int .i32 a0_8, .string a0_9, .int .i64 a0_10, .slice A0_11 l0_11.length c0_11, .int .u32 a0_12, .bool true, .bool false]) (t := 27) ?hr ?_; (case hd => rfl); (case hg => rfl); (case hr => first | (go_simp; done) | (go_simp; rfl)); intro gb217 hg w53 hbox hb; have n0_ := Aside0.mk (below_step (by repeat (first | (with_reducible first | exact HB.out | apply below_alloc | apply pw_below_drewN | apply below_drew1) | exact HB.out)) hb); have n1_ := Aside0.mk (hbox); have n2_ := Aside0.mk ((by rw [hg]; exact (below_size (by repeat (first | (with_reducible first | exact HB.out | apply below_alloc | apply pw_below_drewN | apply below_drew1) | exact HB.out))) : w.heap.size ≤ gb217)); have n3_ := Aside0.mk ((by rw [hg]; exact (below_size (by repeat (first | (with_reducible first | exact HB.out | apply below_alloc | apply pw_below_drewN | apply below_drew1) | exact HB.out))) : w.heap.size ≤ gb217)); clear HB; have HB := n0_; have BK217 := n1_; have GW217 := n2_; have GE217 := n3_; clear n0_ n1_ n2_ n3_; clear hb hbox hg; have hcz54_0 : w53.cell? ⟨gb217, 0, none⟩ = some (.int .i64 a0_0) := (blk_cell BK217.out 0).trans rfl; have hcz54_1 : w53.cell? ⟨gb217, 1, none⟩ = some (.int .i64 a0_1) := (blk_cell BK217.out 1).trans rfl; have hcz54_2 : w53.cell? ⟨gb217, 2, none⟩ = some (.int .i64 a0_2) := (blk_cell BK217.out 2).trans rfl; have hcz54_3 : w53.cell? ⟨gb217, 3, none⟩ = some (.string a0_3) := (blk_cell BK217.out 3).trans rfl; have hcz54_4 : w53.cell? ⟨gb217, 4, none⟩ = some (.int .i64 a0_4) := (blk_cell BK217.out 4).trans rfl; have hcz54_5 : w53.cell? ⟨gb217, 5, none⟩ = some (.int .i64 a0_5) := (blk_cell BK217.out 5).trans rfl; have hcz54_6 : w53.cell? ⟨gb217, 6, none⟩ = some (.int .i64 a0_6) := (blk_cell BK217.out 6).trans rfl; have hcz54_7 : w53.cell? ⟨gb217, 7, none⟩ = some (.int .i64 a0_7) := (blk_cell BK217.out 7).trans rfl; have hcz54_8 : w53.cell? ⟨gb217, 8, none⟩ = some (.int .i32 a0_8) := (blk_cell BK217.out 8).trans rfl; have hcz54_9 : w53.cell? ⟨gb217, 9, none⟩ = some (.string a0_9) := (blk_cell BK217.out 9).trans rfl; have hcz54_10 : w53.cell? ⟨gb217, 10, none⟩ = some (.int .i64 a0_10) := (blk_cell BK217.out 10).trans rfl; have hcz54_11 : w53.cell? ⟨gb217, 11, none⟩ = some (.slice A0_11 l0_11.length c0_11) := (blk_cell BK217.out 11).trans rfl; have hcz54_12 : w53.cell? ⟨gb217, 12, none⟩ = some (.int .u32 a0_12) := (blk_cell BK217.out 12).trans rfl; have hcz54_13 : w53.cell? ⟨gb217, 13, none⟩ = some (.bool true) := (blk_cell BK217.out 13).trans rfl; have hcz54_14 : w53.cell? ⟨gb217, 14, none⟩ = some (.bool false) := (blk_cell BK217.out 14).trans rfl; have hfz54_0 := blk_frozen BK217.out 0; have hfz54_1 := blk_frozen BK217.out 1; have hfz54_2 := blk_frozen BK217.out 2; have hfz54_3 := blk_frozen BK217.out 3; have hfz54_4 := blk_frozen BK217.out 4; have hfz54_5 := blk_frozen BK217.out 5; have hfz54_6 := blk_frozen BK217.out 6; have hfz54_7 := blk_frozen BK217.out 7; have hfz54_8 := blk_frozen BK217.out 8; have hfz54_9 := blk_frozen BK217.out 9; have hfz54_10 := blk_frozen BK217.out 10; have hfz54_11 := blk_frozen BK217.out 11; have hfz54_12 := blk_frozen BK217.out 12; have hfz54_13 := blk_frozen BK217.out 13; have hfz54_14 := blk_frozen BK217.out 14) | ((with_reducible refine gate_dst (N := 65) rfl ?_); refine Kd.R_lit (Kd.int .i64) _ 3 ?hg (N := 65) ?hd (xs := ([4, 8] : List Int)) (inner := [.int .i64 4, .int .i64 8]) (ok := fun _ => True) (okp := fun _ => True) ?hr ?hp (fun _ hk => hk) trivial (Below.refl _ _) (Nat.le_refl _) (by simp) ?_; (case hd => rfl); (case hg => rfl); (case hr => first | (go_simp; done) | (go_simp; rfl)); (case hp => exact (Reps.one (show Kd.M (Kd.int .i64) _ _ _ 4 [.int .i64 4] from rfl) (Reps.one (show Kd.M (Kd.int .i64) _ _ _ 8 [.int .i64 8] from rfl) (Reps.none _ _)))); intro v240 w55 ho56 hb hg_ hnew_; clear hg_ hnew_; (first | rw [← Ny239.out] at ho56 | (simp only [Int.reduceToNat] at ho56; rw [← Ny239.out] at ho56)); have n0_ := Aside0.mk (Kd.R_lower ho56 (below_size (by repeat (first | (with_reducible first | exact HB.out | apply below_alloc | apply pw_below_drewN | apply below_drew1 | refine below_set ?_ GE217.out) | exact HB.out)))); have n1_ := Aside0.mk (blk_below (g := gb217) (o := .cells #[.int .i64 a0_0, .int .i64 a0_1, .int .i64 a0_2, .string a0_3, .int .i64 a0_4, .int .i64 a0_5, .int .i64 a0_6, .int .i64 a0_7, .int .i32 a0_8, .string a0_9, .int .i64 a0_10, .slice A0_11 l0_11.length c0_11, .int .u32 a0_12, .bool true, .bool false] 27 (0, 0)) (by (with_reducible repeat (first | refine blk_drewN ?_ _ | refine blk_drew ?_ | refine blk_alloc ?_ _)); exact BK217.out) hb); have n2_ := Aside0.mk (below_step (by repeat (first | (with_reducible first | exact HB.out | apply below_alloc | apply pw_below_drewN | apply below_drew1 | refine below_set ?_ GE217.out) | exact HB.out)) hb); clear BK217; clear HB; have HO241 := n0_; have BK217 := n1_; have HB := n2_; clear n0_ n1_ n2_; clear hb ho56))
            go_ret
            exact ⟨_, by first | rfl | (simp [errW_none, errW_some] <;> rfl) | (simp [*, errW_none, errW_some] <;> rfl), by (with_reducible repeat (first | apply Kd.R_alloc | apply Kd.R_drewN | apply Kd.R_drew)); exact HO241.out, by repeat (first | (with_reducible first | exact HB.out | apply below_alloc | apply pw_below_drewN | apply below_drew1 | refine below_set ?_ GE217.out) | exact HB.out)⟩
        · replace c47 := Bool.eq_false_iff.mpr c47
          subst c47
          have H1 : (some (([8] : List Int))) = some r := by rw [if_neg (show ¬ (false = true) by decide)] at H; exact H
          clear H
          have H := H1
          clear H1
          obtain ⟨y242, hy242⟩ : ∃ y_ : List Int, y_ = (([8] : List Int)) := ⟨_, rfl⟩
          replace H : (some y242) = some r := by first | (rw [hy242]; with_reducible exact H) | (have H2_ := (Option.bind_some _ _).symm.trans H; rw [hy242]; with_reducible exact H2_) | (have H2_ := (Option.bind_some _ _).symm.trans H; with_reducible exact H2_) | with_reducible exact H | (rw [hy242]; exact H) | exact H
          have Ny242 := Aside0.mk hy242
          clear hy242
          obtain rfl := Option.some.inj H
          go_enter Try.func14, Try.ntmps14
          go_wp2_with (first | ((with_reducible refine gate_dst (N := 1) rfl ?_); refine box_event ?hg (N := 1) ?hd (cs := #[.int .i64 a0_0, .int .i64 a0_1, .int .i64 a0_2, .string a0_3, .int .i64 a0_4, .int .i64 a0_5, .int .i64 a0_6, .int .i64 a0_7, .int .i32 a0_8, .string a0_9, .int .i64 a0_10, .slice A0_11 l0_11.length c0_11, .int .u32 a0_12, .bool false, .bool a0_14]) (t := 27) ?hr ?_; (case hd => rfl); (case hg => rfl); (case hr => first | (go_simp; done) | (go_simp; rfl)); intro gb217 hg w57 hbox hb; have n0_ := Aside0.mk (below_step (by repeat (first | (with_reducible first | exact HB.out | apply below_alloc | apply pw_below_drewN | apply below_drew1) | exact HB.out)) hb); have n1_ := Aside0.mk (hbox); have n2_ := Aside0.mk ((by rw [hg]; exact (below_size (by repeat (first | (with_reducible first | exact HB.out | apply below_alloc | apply pw_below_drewN | apply below_drew1) | exact HB.out))) : w.heap.size ≤ gb217)); have n3_ := Aside0.mk ((by rw [hg]; exact (below_size (by repeat (first | (with_reducible first | exact HB.out | apply below_alloc | apply pw_below_drewN | apply below_drew1) | exact HB.out))) : w.heap.size ≤ gb217)); clear HB; have HB := n0_; have BK217 := n1_; have GW217 := n2_; have GE217 := n3_; clear n0_ n1_ n2_ n3_; clear hb hbox hg; have hcz58_0 : w57.cell? ⟨gb217, 0, none⟩ = some (.int .i64 a0_0) := (blk_cell BK217.out 0).trans rfl; have hcz58_1 : w57.cell? ⟨gb217, 1, none⟩ = some (.int .i64 a0_1) := (blk_cell BK217.out 1).trans rfl; have hcz58_2 : w57.cell? ⟨gb217, 2, none⟩ = some (.int .i64 a0_2) := (blk_cell BK217.out 2).trans rfl; have hcz58_3 : w57.cell? ⟨gb217, 3, none⟩ = some (.string a0_3) := (blk_cell BK217.out 3).trans rfl; have hcz58_4 : w57.cell? ⟨gb217, 4, none⟩ = some (.int .i64 a0_4) := (blk_cell BK217.out 4).trans rfl; have hcz58_5 : w57.cell? ⟨gb217, 5, none⟩ = some (.int .i64 a0_5) := (blk_cell BK217.out 5).trans rfl; have hcz58_6 : w57.cell? ⟨gb217, 6, none⟩ = some (.int .i64 a0_6) := (blk_cell BK217.out 6).trans rfl; have hcz58_7 : w57.cell? ⟨gb217, 7, none⟩ = some (.int .i64 a0_7) := (blk_cell BK217.out 7).trans rfl; have hcz58_8 : w57.cell? ⟨gb217, 8, none⟩ = some (.int .i32 a0_8) := (blk_cell BK217.out 8).trans rfl; have hcz58_9 : w57.cell? ⟨gb217, 9, none⟩ = some (.string a0_9) := (blk_cell BK217.out 9).trans rfl; have hcz58_10 : w57.cell? ⟨gb217, 10, none⟩ = some (.int .i64 a0_10) := (blk_cell BK217.out 10).trans rfl; have hcz58_11 : w57.cell? ⟨gb217, 11, none⟩ = some (.slice A0_11 l0_11.length c0_11) := (blk_cell BK217.out 11).trans rfl; have hcz58_12 : w57.cell? ⟨gb217, 12, none⟩ = some (.int .u32 a0_12) := (blk_cell BK217.out 12).trans rfl; have hcz58_13 : w57.cell? ⟨gb217, 13, none⟩ = some (.bool false) := (blk_cell BK217.out 13).trans rfl; have hcz58_14 : w57.cell? ⟨gb217, 14, none⟩ = some (.bool a0_14) := (blk_cell BK217.out 14).trans rfl; have hfz58_0 := blk_frozen BK217.out 0; have hfz58_1 := blk_frozen BK217.out 1; have hfz58_2 := blk_frozen BK217.out 2; have hfz58_3 := blk_frozen BK217.out 3; have hfz58_4 := blk_frozen BK217.out 4; have hfz58_5 := blk_frozen BK217.out 5; have hfz58_6 := blk_frozen BK217.out 6; have hfz58_7 := blk_frozen BK217.out 7; have hfz58_8 := blk_frozen BK217.out 8; have hfz58_9 := blk_frozen BK217.out 9; have hfz58_10 := blk_frozen BK217.out 10; have hfz58_11 := blk_frozen BK217.out 11; have hfz58_12 := blk_frozen BK217.out 12; have hfz58_13 := blk_frozen BK217.out 13; have hfz58_14 := blk_frozen BK217.out 14) | ((with_reducible refine gate_dst (N := 62) rfl ?_); refine Kd.R_lit (Kd.int .i64) _ 3 ?hg (N := 62) ?hd (xs := ([8] : List Int)) (inner := [.int .i64 8]) (ok := fun _ => True) (okp := fun _ => True) ?hr ?hp (fun _ hk => hk) trivial (Below.refl _ _) (Nat.le_refl _) (by simp) ?_; (case hd => rfl); (case hg => rfl); (case hr => first | (go_simp; done) | (go_simp; rfl)); (case hp => exact (Reps.one (show Kd.M (Kd.int .i64) _ _ _ 8 [.int .i64 8] from rfl) (Reps.none _ _))); intro v243 w59 ho60 hb hg_ hnew_; clear hg_ hnew_; (first | rw [← Ny242.out] at ho60 | (simp only [Int.reduceToNat] at ho60; rw [← Ny242.out] at ho60)); have n0_ := Aside0.mk (Kd.R_lower ho60 (below_size (by repeat (first | (with_reducible first | exact HB.out | apply below_alloc | apply pw_below_drewN | apply below_drew1 | refine below_set ?_ GE217.out) | exact HB.out)))); have n1_ := Aside0.mk (blk_below (g := gb217) (o := .cells #[.int .i64 a0_0, .int .i64 a0_1, .int .i64 a0_2, .string a0_3, .int .i64 a0_4, .int .i64 a0_5, .int .i64 a0_6, .int .i64 a0_7, .int .i32 a0_8, .string a0_9, .int .i64 a0_10, .slice A0_11 l0_11.length c0_11, .int .u32 a0_12, .bool false, .bool a0_14] 27 (0, 0)) (by (with_reducible repeat (first | refine blk_drewN ?_ _ | refine blk_drew ?_ | refine blk_alloc ?_ _)); exact BK217.out) hb); have n2_ := Aside0.mk (below_step (by repeat (first | (with_reducible first | exact HB.out | apply below_alloc | apply pw_below_drewN | apply below_drew1 | refine below_set ?_ GE217.out) | exact HB.out)) hb); clear BK217; clear HB; have HO244 := n0_; have BK217 := n1_; have HB := n2_; clear n0_ n1_ n2_; clear hb ho60))
          go_ret
          exact ⟨_, by first | rfl | (simp [errW_none, errW_some] <;> rfl) | (simp [*, errW_none, errW_some] <;> rfl), by (with_reducible repeat (first | apply Kd.R_alloc | apply Kd.R_drewN | apply Kd.R_drew)); exact HO244.out, by repeat (first | (with_reducible first | exact HB.out | apply below_alloc | apply pw_below_drewN | apply below_drew1 | refine below_set ?_ GE217.out) | exact HB.out)⟩
      · rw [if_neg c46] at H
        have c46b0 : (a0_0 == 6) = false := beq_eq_false_iff_ne.mpr c46
        have c46b1 : (a0_0 != 6) = true := bne_iff_ne.mpr c46
        have HC61 := Aside0.mk H
        clear H
        go_enter Try.func14, Try.ntmps14
        go_upto_if 66 with (first | ((with_reducible refine gate_dst (N := 1) rfl ?_); refine box_event ?hg (N := 1) ?hd (cs := #[.int .i64 a0_0, .int .i64 a0_1, .int .i64 a0_2, .string a0_3, .int .i64 a0_4, .int .i64 a0_5, .int .i64 a0_6, .int .i64 a0_7, .int .i32 a0_8, .string a0_9, .int .i64 a0_10, .slice A0_11 l0_11.length c0_11, .int .u32 a0_12, .bool a0_13, .bool a0_14]) (t := 27) ?hr ?_; (case hd => rfl); (case hg => rfl); (case hr => first | (go_simp; done) | (go_simp; rfl)); intro gb217 hg w62 hbox hb; have n0_ := Aside0.mk (below_step (by repeat (first | (with_reducible first | exact HB.out | apply below_alloc | apply pw_below_drewN | apply below_drew1) | exact HB.out)) hb); have n1_ := Aside0.mk (hbox); have n2_ := Aside0.mk ((by rw [hg]; exact (below_size (by repeat (first | (with_reducible first | exact HB.out | apply below_alloc | apply pw_below_drewN | apply below_drew1) | exact HB.out))) : w.heap.size ≤ gb217)); have n3_ := Aside0.mk ((by rw [hg]; exact (below_size (by repeat (first | (with_reducible first | exact HB.out | apply below_alloc | apply pw_below_drewN | apply below_drew1) | exact HB.out))) : w.heap.size ≤ gb217)); clear HB; have HB := n0_; have BK217 := n1_; have GW217 := n2_; have GE217 := n3_; clear n0_ n1_ n2_ n3_; clear hb hbox hg; have hcz63_0 : w62.cell? ⟨gb217, 0, none⟩ = some (.int .i64 a0_0) := (blk_cell BK217.out 0).trans rfl; have hcz63_1 : w62.cell? ⟨gb217, 1, none⟩ = some (.int .i64 a0_1) := (blk_cell BK217.out 1).trans rfl; have hcz63_2 : w62.cell? ⟨gb217, 2, none⟩ = some (.int .i64 a0_2) := (blk_cell BK217.out 2).trans rfl; have hcz63_3 : w62.cell? ⟨gb217, 3, none⟩ = some (.string a0_3) := (blk_cell BK217.out 3).trans rfl; have hcz63_4 : w62.cell? ⟨gb217, 4, none⟩ = some (.int .i64 a0_4) := (blk_cell BK217.out 4).trans rfl; have hcz63_5 : w62.cell? ⟨gb217, 5, none⟩ = some (.int .i64 a0_5) := (blk_cell BK217.out 5).trans rfl; have hcz63_6 : w62.cell? ⟨gb217, 6, none⟩ = some (.int .i64 a0_6) := (blk_cell BK217.out 6).trans rfl; have hcz63_7 : w62.cell? ⟨gb217, 7, none⟩ = some (.int .i64 a0_7) := (blk_cell BK217.out 7).trans rfl; have hcz63_8 : w62.cell? ⟨gb217, 8, none⟩ = some (.int .i32 a0_8) := (blk_cell BK217.out 8).trans rfl; have hcz63_9 : w62.cell? ⟨gb217, 9, none⟩ = some (.string a0_9) := (blk_cell BK217.out 9).trans rfl; have hcz63_10 : w62.cell? ⟨gb217, 10, none⟩ = some (.int .i64 a0_10) := (blk_cell BK217.out 10).trans rfl; have hcz63_11 : w62.cell? ⟨gb217, 11, none⟩ = some (.slice A0_11 l0_11.length c0_11) := (blk_cell BK217.out 11).trans rfl; have hcz63_12 : w62.cell? ⟨gb217, 12, none⟩ = some (.int .u32 a0_12) := (blk_cell BK217.out 12).trans rfl; have hcz63_13 : w62.cell? ⟨gb217, 13, none⟩ = some (.bool a0_13) := (blk_cell BK217.out 13).trans rfl; have hcz63_14 : w62.cell? ⟨gb217, 14, none⟩ = some (.bool a0_14) := (blk_cell BK217.out 14).trans rfl; have hfz63_0 := blk_frozen BK217.out 0; have hfz63_1 := blk_frozen BK217.out 1; have hfz63_2 := blk_frozen BK217.out 2; have hfz63_3 := blk_frozen BK217.out 3; have hfz63_4 := blk_frozen BK217.out 4; have hfz63_5 := blk_frozen BK217.out 5; have hfz63_6 := blk_frozen BK217.out 6; have hfz63_7 := blk_frozen BK217.out 7; have hfz63_8 := blk_frozen BK217.out 8; have hfz63_9 := blk_frozen BK217.out 9; have hfz63_10 := blk_frozen BK217.out 10; have hfz63_11 := blk_frozen BK217.out 11; have hfz63_12 := blk_frozen BK217.out 12; have hfz63_13 := blk_frozen BK217.out 13; have hfz63_14 := blk_frozen BK217.out 14))
        (try simp only [Act.put, List.setIfInBounds_toArray, List.set_cons_zero, List.set_cons_succ])
        go_cut [66] (fun v66 wc => ∃ (kq : Nat) (x66_60 : Bool), v66 = .bool x66_60 ∧ Aside0 (typecaseref18_Classes.j1 kq a0_0 x66_60 a0_0 a0_1 a0_2 a0_3 a0_4 a0_5 a0_6 a0_7 a0_8 a0_9 a0_10 l0_11 a0_12 a0_13 a0_14 = some r) ∧ Aside0 (kq ≤ k) ∧ Aside0 (wc.heap[gb217]? = some (.cells #[.int .i64 a0_0, .int .i64 a0_1, .int .i64 a0_2, .string a0_3, .int .i64 a0_4, .int .i64 a0_5, .int .i64 a0_6, .int .i64 a0_7, .int .i32 a0_8, .string a0_9, .int .i64 a0_10, (.slice A0_11 l0_11.length c0_11), .int .u32 a0_12, .bool a0_13, .bool a0_14] 27 (0, 0))) ∧ Aside0 (Below w.heap.size w wc))
        case first =>
          have H := HC61.out
          clear HC61
          by_cases c64 : a0_0 = 2
          · rw [if_pos c64] at H
            have c64b0 : (a0_0 == 2) = true := beq_iff_eq.mpr c64
            have c64b1 : (a0_0 != 2) = false := bne_eq_false_iff_eq.mpr c64
            clear c64
            (first | rw [c64b0] | (simp only [i64_w, i32_w]; rw [c64b0]) | skip)
            have H' := Aside0.mk H
            clear H
            go_wp2
            go_meet
            case rel => exact ⟨_, ((a0_0 == 2)), (by first | rfl | (simp; done) | (simp [*]; done)), H', ⟨by first | omega | exact Nat.le_refl _⟩, ⟨by (with_reducible repeat (first | refine blk_drewN ?_ _ | refine blk_drew ?_ | refine blk_alloc ?_ _)); exact BK217.out⟩, ⟨by repeat (first | (with_reducible first | exact HB.out | apply below_alloc | apply pw_below_drewN | apply below_drew1 | refine below_set ?_ GE217.out) | exact HB.out)⟩⟩
          · rw [if_neg c64] at H
            have c64b0 : (a0_0 == 2) = false := beq_eq_false_iff_ne.mpr c64
            have c64b1 : (a0_0 != 2) = true := bne_iff_ne.mpr c64
            (first | rw [c64b0] | (simp only [i64_w, i32_w]; rw [c64b0]) | skip)
            have H' := Aside0.mk H
            clear H
            go_wp2
            go_meet
            case rel => exact ⟨_, ((a0_0 == 3)), (by first | rfl | (simp; done) | (simp [*]; done)), H', ⟨by first | omega | exact Nat.le_refl _⟩, ⟨by (with_reducible repeat (first | refine blk_drewN ?_ _ | refine blk_drew ?_ | refine blk_alloc ?_ _)); exact BK217.out⟩, ⟨by repeat (first | (with_reducible first | exact HB.out | apply below_alloc | apply pw_below_drewN | apply below_drew1 | refine below_set ?_ GE217.out) | exact HB.out)⟩⟩
        case rest =>
          clear HC61
          try clear c1
          try clear c2
          try clear c2b0
          try clear c2b1
          try clear p2
          try clear c3
          try clear c4
          try clear c6
          try clear c7
          try clear c7b0
          try clear c7b1
          try clear c8
          try clear c8b0
          try clear c8b1
          try clear c9
          try clear c9b0
          try clear c13
          try clear c13b0
          try clear c13b1
          try clear c14
          try clear c14b0
          try clear c14b1
          try clear c15
          try clear c15b0
          try clear c20
          try clear c21
          try clear c31
          try clear c31b0
          try clear c31b1
          try clear c32
          try clear c33
          try clear c46
          try clear c46b0
          try clear c46b1
          try clear c47
          try clear c48
          try clear c64
          try clear c64b0
          try clear c64b1
          try clear hcz10_0 hcz10_1 hcz10_10 hcz10_11 hcz10_12 hcz10_13 hcz10_14 hcz10_2 hcz10_3 hcz10_4 hcz10_5 hcz10_6 hcz10_7 hcz10_8 hcz10_9 hfz10_0 hfz10_1 hfz10_10 hfz10_11 hfz10_12 hfz10_13 hfz10_14 hfz10_2 hfz10_3 hfz10_4 hfz10_5 hfz10_6 hfz10_7 hfz10_8 hfz10_9
          try clear hcz11_0 hcz11_1 hcz11_10 hcz11_11 hcz11_12 hcz11_13 hcz11_14 hcz11_2 hcz11_3 hcz11_4 hcz11_5 hcz11_6 hcz11_7 hcz11_8 hcz11_9 hfz11_0 hfz11_1 hfz11_10 hfz11_11 hfz11_12 hfz11_13 hfz11_14 hfz11_2 hfz11_3 hfz11_4 hfz11_5 hfz11_6 hfz11_7 hfz11_8 hfz11_9
          try clear hcz12_0 hcz12_1 hcz12_10 hcz12_11 hcz12_12 hcz12_13 hcz12_14 hcz12_2 hcz12_3 hcz12_4 hcz12_5 hcz12_6 hcz12_7 hcz12_8 hcz12_9 hfz12_0 hfz12_1 hfz12_10 hfz12_11 hfz12_12 hfz12_13 hfz12_14 hfz12_2 hfz12_3 hfz12_4 hfz12_5 hfz12_6 hfz12_7 hfz12_8 hfz12_9
          try clear hcz16_0 hcz16_1 hcz16_10 hcz16_11 hcz16_12 hcz16_13 hcz16_14 hcz16_2 hcz16_3 hcz16_4 hcz16_5 hcz16_6 hcz16_7 hcz16_8 hcz16_9 hfz16_0 hfz16_1 hfz16_10 hfz16_11 hfz16_12 hfz16_13 hfz16_14 hfz16_2 hfz16_3 hfz16_4 hfz16_5 hfz16_6 hfz16_7 hfz16_8 hfz16_9
          try clear hcz17_0 hcz17_1 hcz17_10 hcz17_11 hcz17_12 hcz17_13 hcz17_14 hcz17_2 hcz17_3 hcz17_4 hcz17_5 hcz17_6 hcz17_7 hcz17_8 hcz17_9 hfz17_0 hfz17_1 hfz17_10 hfz17_11 hfz17_12 hfz17_13 hfz17_14 hfz17_2 hfz17_3 hfz17_4 hfz17_5 hfz17_6 hfz17_7 hfz17_8 hfz17_9
          try clear hcz18_0 hcz18_1 hcz18_10 hcz18_11 hcz18_12 hcz18_13 hcz18_14 hcz18_2 hcz18_3 hcz18_4 hcz18_5 hcz18_6 hcz18_7 hcz18_8 hcz18_9 hfz18_0 hfz18_1 hfz18_10 hfz18_11 hfz18_12 hfz18_13 hfz18_14 hfz18_2 hfz18_3 hfz18_4 hfz18_5 hfz18_6 hfz18_7 hfz18_8 hfz18_9
          try clear hcz19_0 hcz19_1 hcz19_10 hcz19_11 hcz19_12 hcz19_13 hcz19_14 hcz19_2 hcz19_3 hcz19_4 hcz19_5 hcz19_6 hcz19_7 hcz19_8 hcz19_9 hfz19_0 hfz19_1 hfz19_10 hfz19_11 hfz19_12 hfz19_13 hfz19_14 hfz19_2 hfz19_3 hfz19_4 hfz19_5 hfz19_6 hfz19_7 hfz19_8 hfz19_9
          try clear hcz22_0 hcz22_1 hcz22_10 hcz22_11 hcz22_12 hcz22_13 hcz22_14 hcz22_2 hcz22_3 hcz22_4 hcz22_5 hcz22_6 hcz22_7 hcz22_8 hcz22_9 hfz22_0 hfz22_1 hfz22_10 hfz22_11 hfz22_12 hfz22_13 hfz22_14 hfz22_2 hfz22_3 hfz22_4 hfz22_5 hfz22_6 hfz22_7 hfz22_8 hfz22_9
          try clear hcz25_0 hcz25_1 hcz25_10 hcz25_11 hcz25_12 hcz25_13 hcz25_14 hcz25_2 hcz25_3 hcz25_4 hcz25_5 hcz25_6 hcz25_7 hcz25_8 hcz25_9 hfz25_0 hfz25_1 hfz25_10 hfz25_11 hfz25_12 hfz25_13 hfz25_14 hfz25_2 hfz25_3 hfz25_4 hfz25_5 hfz25_6 hfz25_7 hfz25_8 hfz25_9
          try clear hcz28_0 hcz28_1 hcz28_10 hcz28_11 hcz28_12 hcz28_13 hcz28_14 hcz28_2 hcz28_3 hcz28_4 hcz28_5 hcz28_6 hcz28_7 hcz28_8 hcz28_9 hfz28_0 hfz28_1 hfz28_10 hfz28_11 hfz28_12 hfz28_13 hfz28_14 hfz28_2 hfz28_3 hfz28_4 hfz28_5 hfz28_6 hfz28_7 hfz28_8 hfz28_9
          try clear hcz35_0 hcz35_1 hcz35_10 hcz35_11 hcz35_12 hcz35_13 hcz35_14 hcz35_2 hcz35_3 hcz35_4 hcz35_5 hcz35_6 hcz35_7 hcz35_8 hcz35_9 hfz35_0 hfz35_1 hfz35_10 hfz35_11 hfz35_12 hfz35_13 hfz35_14 hfz35_2 hfz35_3 hfz35_4 hfz35_5 hfz35_6 hfz35_7 hfz35_8 hfz35_9
          try clear hcz39_0 hcz39_1 hcz39_10 hcz39_11 hcz39_12 hcz39_13 hcz39_14 hcz39_2 hcz39_3 hcz39_4 hcz39_5 hcz39_6 hcz39_7 hcz39_8 hcz39_9 hfz39_0 hfz39_1 hfz39_10 hfz39_11 hfz39_12 hfz39_13 hfz39_14 hfz39_2 hfz39_3 hfz39_4 hfz39_5 hfz39_6 hfz39_7 hfz39_8 hfz39_9
          try clear hcz43_0 hcz43_1 hcz43_10 hcz43_11 hcz43_12 hcz43_13 hcz43_14 hcz43_2 hcz43_3 hcz43_4 hcz43_5 hcz43_6 hcz43_7 hcz43_8 hcz43_9 hfz43_0 hfz43_1 hfz43_10 hfz43_11 hfz43_12 hfz43_13 hfz43_14 hfz43_2 hfz43_3 hfz43_4 hfz43_5 hfz43_6 hfz43_7 hfz43_8 hfz43_9
          try clear hcz50_0 hcz50_1 hcz50_10 hcz50_11 hcz50_12 hcz50_13 hcz50_14 hcz50_2 hcz50_3 hcz50_4 hcz50_5 hcz50_6 hcz50_7 hcz50_8 hcz50_9 hfz50_0 hfz50_1 hfz50_10 hfz50_11 hfz50_12 hfz50_13 hfz50_14 hfz50_2 hfz50_3 hfz50_4 hfz50_5 hfz50_6 hfz50_7 hfz50_8 hfz50_9
          try clear hcz54_0 hcz54_1 hcz54_10 hcz54_11 hcz54_12 hcz54_13 hcz54_14 hcz54_2 hcz54_3 hcz54_4 hcz54_5 hcz54_6 hcz54_7 hcz54_8 hcz54_9 hfz54_0 hfz54_1 hfz54_10 hfz54_11 hfz54_12 hfz54_13 hfz54_14 hfz54_2 hfz54_3 hfz54_4 hfz54_5 hfz54_6 hfz54_7 hfz54_8 hfz54_9
          try clear hcz58_0 hcz58_1 hcz58_10 hcz58_11 hcz58_12 hcz58_13 hcz58_14 hcz58_2 hcz58_3 hcz58_4 hcz58_5 hcz58_6 hcz58_7 hcz58_8 hcz58_9 hfz58_0 hfz58_1 hfz58_10 hfz58_11 hfz58_12 hfz58_13 hfz58_14 hfz58_2 hfz58_3 hfz58_4 hfz58_5 hfz58_6 hfz58_7 hfz58_8 hfz58_9
          try clear hcz5_0 hcz5_1 hcz5_10 hcz5_11 hcz5_12 hcz5_13 hcz5_14 hcz5_2 hcz5_3 hcz5_4 hcz5_5 hcz5_6 hcz5_7 hcz5_8 hcz5_9 hfz5_0 hfz5_1 hfz5_10 hfz5_11 hfz5_12 hfz5_13 hfz5_14 hfz5_2 hfz5_3 hfz5_4 hfz5_5 hfz5_6 hfz5_7 hfz5_8 hfz5_9
          try clear hcz63_0 hcz63_1 hcz63_10 hcz63_11 hcz63_12 hcz63_13 hcz63_14 hcz63_2 hcz63_3 hcz63_4 hcz63_5 hcz63_6 hcz63_7 hcz63_8 hcz63_9 hfz63_0 hfz63_1 hfz63_10 hfz63_11 hfz63_12 hfz63_13 hfz63_14 hfz63_2 hfz63_3 hfz63_4 hfz63_5 hfz63_6 hfz63_7 hfz63_8 hfz63_9
          try clear p2
          obtain ⟨kq, x66_60, rfl, HA, HJ60, BK217, HB⟩ := hcut
          cases kq with
          | zero => exact absurd HA.out (by simp [typecaseref18_Classes.j1])
          | succ kj60 =>
            have H := HA.out
            clear HA
            simp only [typecaseref18_Classes.j1] at H
            by_cases c65 : x66_60 = true
            · subst c65
              have H1 : (if a0_10 = 2 then (some (([2] : List Int))) else (some (([4] : List Int)))) = some r := by rw [if_pos rfl] at H; exact H
              clear H
              have H := H1
              clear H1
              by_cases c66 : a0_10 = 2
              · rw [if_pos c66] at H
                have c66b0 : (a0_10 == 2) = true := beq_iff_eq.mpr c66
                have c66b1 : (a0_10 != 2) = false := bne_eq_false_iff_eq.mpr c66
                clear c66
                obtain ⟨y245, hy245⟩ : ∃ y_ : List Int, y_ = (([2] : List Int)) := ⟨_, rfl⟩
                replace H : (some y245) = some r := by first | (rw [hy245]; with_reducible exact H) | (have H2_ := (Option.bind_some _ _).symm.trans H; rw [hy245]; with_reducible exact H2_) | (have H2_ := (Option.bind_some _ _).symm.trans H; with_reducible exact H2_) | with_reducible exact H | (rw [hy245]; exact H) | exact H
                have Ny245 := Aside0.mk hy245
                clear hy245
                obtain rfl := Option.some.inj H
                have hcz67_0 : wc.cell? ⟨gb217, 0, none⟩ = some (.int .i64 a0_0) := (blk_cell BK217.out 0).trans rfl
                have hcz67_1 : wc.cell? ⟨gb217, 1, none⟩ = some (.int .i64 a0_1) := (blk_cell BK217.out 1).trans rfl
                have hcz67_2 : wc.cell? ⟨gb217, 2, none⟩ = some (.int .i64 a0_2) := (blk_cell BK217.out 2).trans rfl
                have hcz67_3 : wc.cell? ⟨gb217, 3, none⟩ = some (.string a0_3) := (blk_cell BK217.out 3).trans rfl
                have hcz67_4 : wc.cell? ⟨gb217, 4, none⟩ = some (.int .i64 a0_4) := (blk_cell BK217.out 4).trans rfl
                have hcz67_5 : wc.cell? ⟨gb217, 5, none⟩ = some (.int .i64 a0_5) := (blk_cell BK217.out 5).trans rfl
                have hcz67_6 : wc.cell? ⟨gb217, 6, none⟩ = some (.int .i64 a0_6) := (blk_cell BK217.out 6).trans rfl
                have hcz67_7 : wc.cell? ⟨gb217, 7, none⟩ = some (.int .i64 a0_7) := (blk_cell BK217.out 7).trans rfl
                have hcz67_8 : wc.cell? ⟨gb217, 8, none⟩ = some (.int .i32 a0_8) := (blk_cell BK217.out 8).trans rfl
                have hcz67_9 : wc.cell? ⟨gb217, 9, none⟩ = some (.string a0_9) := (blk_cell BK217.out 9).trans rfl
                have hcz67_10 : wc.cell? ⟨gb217, 10, none⟩ = some (.int .i64 a0_10) := (blk_cell BK217.out 10).trans rfl
                have hcz67_11 : wc.cell? ⟨gb217, 11, none⟩ = some (.slice A0_11 l0_11.length c0_11) := (blk_cell BK217.out 11).trans rfl
                have hcz67_12 : wc.cell? ⟨gb217, 12, none⟩ = some (.int .u32 a0_12) := (blk_cell BK217.out 12).trans rfl
                have hcz67_13 : wc.cell? ⟨gb217, 13, none⟩ = some (.bool a0_13) := (blk_cell BK217.out 13).trans rfl
                have hcz67_14 : wc.cell? ⟨gb217, 14, none⟩ = some (.bool a0_14) := (blk_cell BK217.out 14).trans rfl
                have hfz67_0 := blk_frozen BK217.out 0
                have hfz67_1 := blk_frozen BK217.out 1
                have hfz67_2 := blk_frozen BK217.out 2
                have hfz67_3 := blk_frozen BK217.out 3
                have hfz67_4 := blk_frozen BK217.out 4
                have hfz67_5 := blk_frozen BK217.out 5
                have hfz67_6 := blk_frozen BK217.out 6
                have hfz67_7 := blk_frozen BK217.out 7
                have hfz67_8 := blk_frozen BK217.out 8
                have hfz67_9 := blk_frozen BK217.out 9
                have hfz67_10 := blk_frozen BK217.out 10
                have hfz67_11 := blk_frozen BK217.out 11
                have hfz67_12 := blk_frozen BK217.out 12
                have hfz67_13 := blk_frozen BK217.out 13
                have hfz67_14 := blk_frozen BK217.out 14
                go_wp2_with (first | ((with_reducible refine gate_dst (N := 72) rfl ?_); refine Kd.R_lit (Kd.int .i64) _ 3 ?hg (N := 72) ?hd (xs := ([2] : List Int)) (inner := [.int .i64 2]) (ok := fun _ => True) (okp := fun _ => True) ?hr ?hp (fun _ hk => hk) trivial (Below.refl _ _) (Nat.le_refl _) (by simp) ?_; (case hd => rfl); (case hg => rfl); (case hr => first | (go_simp; done) | (go_simp; rfl)); (case hp => exact (Reps.one (show Kd.M (Kd.int .i64) _ _ _ 2 [.int .i64 2] from rfl) (Reps.none _ _))); intro v246 w68 ho69 hb hg_ hnew_; clear hg_ hnew_; (first | rw [← Ny245.out] at ho69 | (simp only [Int.reduceToNat] at ho69; rw [← Ny245.out] at ho69)); have n0_ := Aside0.mk (Kd.R_lower ho69 (below_size (by repeat (first | (with_reducible first | exact HB.out | apply below_alloc | apply pw_below_drewN | apply below_drew1 | refine below_set ?_ GE217.out) | exact HB.out)))); have n1_ := Aside0.mk (blk_below (g := gb217) (o := .cells #[.int .i64 a0_0, .int .i64 a0_1, .int .i64 a0_2, .string a0_3, .int .i64 a0_4, .int .i64 a0_5, .int .i64 a0_6, .int .i64 a0_7, .int .i32 a0_8, .string a0_9, .int .i64 a0_10, .slice A0_11 l0_11.length c0_11, .int .u32 a0_12, .bool a0_13, .bool a0_14] 27 (0, 0)) (by (with_reducible repeat (first | refine blk_drewN ?_ _ | refine blk_drew ?_ | refine blk_alloc ?_ _)); exact BK217.out) hb); have n2_ := Aside0.mk (below_step (by repeat (first | (with_reducible first | exact HB.out | apply below_alloc | apply pw_below_drewN | apply below_drew1 | refine below_set ?_ GE217.out) | exact HB.out)) hb); clear BK217; clear HB; have HO247 := n0_; have BK217 := n1_; have HB := n2_; clear n0_ n1_ n2_; clear hb ho69))
                go_ret
                exact ⟨_, by first | rfl | (simp [errW_none, errW_some] <;> rfl) | (simp [*, errW_none, errW_some] <;> rfl), by (with_reducible repeat (first | apply Kd.R_alloc | apply Kd.R_drewN | apply Kd.R_drew)); exact HO247.out, by repeat (first | (with_reducible first | exact HB.out | apply below_alloc | apply pw_below_drewN | apply below_drew1 | refine below_set ?_ GE217.out) | exact HB.out)⟩
              · rw [if_neg c66] at H
                have c66b0 : (a0_10 == 2) = false := beq_eq_false_iff_ne.mpr c66
                have c66b1 : (a0_10 != 2) = true := bne_iff_ne.mpr c66
                obtain ⟨y248, hy248⟩ : ∃ y_ : List Int, y_ = (([4] : List Int)) := ⟨_, rfl⟩
                replace H : (some y248) = some r := by first | (rw [hy248]; with_reducible exact H) | (have H2_ := (Option.bind_some _ _).symm.trans H; rw [hy248]; with_reducible exact H2_) | (have H2_ := (Option.bind_some _ _).symm.trans H; with_reducible exact H2_) | with_reducible exact H | (rw [hy248]; exact H) | exact H
                have Ny248 := Aside0.mk hy248
                clear hy248
                obtain rfl := Option.some.inj H
                have hcz70_0 : wc.cell? ⟨gb217, 0, none⟩ = some (.int .i64 a0_0) := (blk_cell BK217.out 0).trans rfl
                have hcz70_1 : wc.cell? ⟨gb217, 1, none⟩ = some (.int .i64 a0_1) := (blk_cell BK217.out 1).trans rfl
                have hcz70_2 : wc.cell? ⟨gb217, 2, none⟩ = some (.int .i64 a0_2) := (blk_cell BK217.out 2).trans rfl
                have hcz70_3 : wc.cell? ⟨gb217, 3, none⟩ = some (.string a0_3) := (blk_cell BK217.out 3).trans rfl
                have hcz70_4 : wc.cell? ⟨gb217, 4, none⟩ = some (.int .i64 a0_4) := (blk_cell BK217.out 4).trans rfl
                have hcz70_5 : wc.cell? ⟨gb217, 5, none⟩ = some (.int .i64 a0_5) := (blk_cell BK217.out 5).trans rfl
                have hcz70_6 : wc.cell? ⟨gb217, 6, none⟩ = some (.int .i64 a0_6) := (blk_cell BK217.out 6).trans rfl
                have hcz70_7 : wc.cell? ⟨gb217, 7, none⟩ = some (.int .i64 a0_7) := (blk_cell BK217.out 7).trans rfl
                have hcz70_8 : wc.cell? ⟨gb217, 8, none⟩ = some (.int .i32 a0_8) := (blk_cell BK217.out 8).trans rfl
                have hcz70_9 : wc.cell? ⟨gb217, 9, none⟩ = some (.string a0_9) := (blk_cell BK217.out 9).trans rfl
                have hcz70_10 : wc.cell? ⟨gb217, 10, none⟩ = some (.int .i64 a0_10) := (blk_cell BK217.out 10).trans rfl
                have hcz70_11 : wc.cell? ⟨gb217, 11, none⟩ = some (.slice A0_11 l0_11.length c0_11) := (blk_cell BK217.out 11).trans rfl
                have hcz70_12 : wc.cell? ⟨gb217, 12, none⟩ = some (.int .u32 a0_12) := (blk_cell BK217.out 12).trans rfl
                have hcz70_13 : wc.cell? ⟨gb217, 13, none⟩ = some (.bool a0_13) := (blk_cell BK217.out 13).trans rfl
                have hcz70_14 : wc.cell? ⟨gb217, 14, none⟩ = some (.bool a0_14) := (blk_cell BK217.out 14).trans rfl
                have hfz70_0 := blk_frozen BK217.out 0
                have hfz70_1 := blk_frozen BK217.out 1
                have hfz70_2 := blk_frozen BK217.out 2
                have hfz70_3 := blk_frozen BK217.out 3
                have hfz70_4 := blk_frozen BK217.out 4
                have hfz70_5 := blk_frozen BK217.out 5
                have hfz70_6 := blk_frozen BK217.out 6
                have hfz70_7 := blk_frozen BK217.out 7
                have hfz70_8 := blk_frozen BK217.out 8
                have hfz70_9 := blk_frozen BK217.out 9
                have hfz70_10 := blk_frozen BK217.out 10
                have hfz70_11 := blk_frozen BK217.out 11
                have hfz70_12 := blk_frozen BK217.out 12
                have hfz70_13 := blk_frozen BK217.out 13
                have hfz70_14 := blk_frozen BK217.out 14
                go_wp2_with (first | ((with_reducible refine gate_dst (N := 73) rfl ?_); refine Kd.R_lit (Kd.int .i64) _ 3 ?hg (N := 73) ?hd (xs := ([4] : List Int)) (inner := [.int .i64 4]) (ok := fun _ => True) (okp := fun _ => True) ?hr ?hp (fun _ hk => hk) trivial (Below.refl _ _) (Nat.le_refl _) (by simp) ?_; (case hd => rfl); (case hg => rfl); (case hr => first | (go_simp; done) | (go_simp; rfl)); (case hp => exact (Reps.one (show Kd.M (Kd.int .i64) _ _ _ 4 [.int .i64 4] from rfl) (Reps.none _ _))); intro v249 w71 ho72 hb hg_ hnew_; clear hg_ hnew_; (first | rw [← Ny248.out] at ho72 | (simp only [Int.reduceToNat] at ho72; rw [← Ny248.out] at ho72)); have n0_ := Aside0.mk (Kd.R_lower ho72 (below_size (by repeat (first | (with_reducible first | exact HB.out | apply below_alloc | apply pw_below_drewN | apply below_drew1 | refine below_set ?_ GE217.out) | exact HB.out)))); have n1_ := Aside0.mk (blk_below (g := gb217) (o := .cells #[.int .i64 a0_0, .int .i64 a0_1, .int .i64 a0_2, .string a0_3, .int .i64 a0_4, .int .i64 a0_5, .int .i64 a0_6, .int .i64 a0_7, .int .i32 a0_8, .string a0_9, .int .i64 a0_10, .slice A0_11 l0_11.length c0_11, .int .u32 a0_12, .bool a0_13, .bool a0_14] 27 (0, 0)) (by (with_reducible repeat (first | refine blk_drewN ?_ _ | refine blk_drew ?_ | refine blk_alloc ?_ _)); exact BK217.out) hb); have n2_ := Aside0.mk (below_step (by repeat (first | (with_reducible first | exact HB.out | apply below_alloc | apply pw_below_drewN | apply below_drew1 | refine below_set ?_ GE217.out) | exact HB.out)) hb); clear BK217; clear HB; have HO250 := n0_; have BK217 := n1_; have HB := n2_; clear n0_ n1_ n2_; clear hb ho72))
                go_ret
                exact ⟨_, by first | rfl | (simp [errW_none, errW_some] <;> rfl) | (simp [*, errW_none, errW_some] <;> rfl), by (with_reducible repeat (first | apply Kd.R_alloc | apply Kd.R_drewN | apply Kd.R_drew)); exact HO250.out, by repeat (first | (with_reducible first | exact HB.out | apply below_alloc | apply pw_below_drewN | apply below_drew1 | refine below_set ?_ GE217.out) | exact HB.out)⟩
            · replace c65 := Bool.eq_false_iff.mpr c65
              subst c65
              have H1 : (if a0_0 = 8 then (if a0_10 = 1 then (some (([a0_10] : List Int))) else (if a0_10 = 2 then (some (([a0_10] : List Int))) else (some (([4] : List Int))))) else (if a0_0 = 9 then (some (([(a0_3.size : Int)] : List Int))) else (if a0_0 = 7 then (some (([8] : List Int))) else (some (([0] : List Int)))))) = some r := by rw [if_neg (show ¬ (false = true) by decide)] at H; exact H
              clear H
              have H := H1
              clear H1
              by_cases c73 : a0_0 = 8
              · rw [if_pos c73] at H
                have c73b0 : (a0_0 == 8) = true := beq_iff_eq.mpr c73
                have c73b1 : (a0_0 != 8) = false := bne_eq_false_iff_eq.mpr c73
                clear c73
                by_cases c74 : a0_10 = 1
                · rw [if_pos c74] at H
                  have c74b0 : (a0_10 == 1) = true := beq_iff_eq.mpr c74
                  have c74b1 : (a0_10 != 1) = false := bne_eq_false_iff_eq.mpr c74
                  clear c74
                  obtain ⟨y251, hy251⟩ : ∃ y_ : List Int, y_ = (([a0_10] : List Int)) := ⟨_, rfl⟩
                  replace H : (some y251) = some r := by first | (rw [hy251]; with_reducible exact H) | (have H2_ := (Option.bind_some _ _).symm.trans H; rw [hy251]; with_reducible exact H2_) | (have H2_ := (Option.bind_some _ _).symm.trans H; with_reducible exact H2_) | with_reducible exact H | (rw [hy251]; exact H) | exact H
                  have Ny251 := Aside0.mk hy251
                  clear hy251
                  obtain rfl := Option.some.inj H
                  have hcz75_0 : wc.cell? ⟨gb217, 0, none⟩ = some (.int .i64 a0_0) := (blk_cell BK217.out 0).trans rfl
                  have hcz75_1 : wc.cell? ⟨gb217, 1, none⟩ = some (.int .i64 a0_1) := (blk_cell BK217.out 1).trans rfl
                  have hcz75_2 : wc.cell? ⟨gb217, 2, none⟩ = some (.int .i64 a0_2) := (blk_cell BK217.out 2).trans rfl
                  have hcz75_3 : wc.cell? ⟨gb217, 3, none⟩ = some (.string a0_3) := (blk_cell BK217.out 3).trans rfl
                  have hcz75_4 : wc.cell? ⟨gb217, 4, none⟩ = some (.int .i64 a0_4) := (blk_cell BK217.out 4).trans rfl
                  have hcz75_5 : wc.cell? ⟨gb217, 5, none⟩ = some (.int .i64 a0_5) := (blk_cell BK217.out 5).trans rfl
                  have hcz75_6 : wc.cell? ⟨gb217, 6, none⟩ = some (.int .i64 a0_6) := (blk_cell BK217.out 6).trans rfl
                  have hcz75_7 : wc.cell? ⟨gb217, 7, none⟩ = some (.int .i64 a0_7) := (blk_cell BK217.out 7).trans rfl
                  have hcz75_8 : wc.cell? ⟨gb217, 8, none⟩ = some (.int .i32 a0_8) := (blk_cell BK217.out 8).trans rfl
                  have hcz75_9 : wc.cell? ⟨gb217, 9, none⟩ = some (.string a0_9) := (blk_cell BK217.out 9).trans rfl
                  have hcz75_10 : wc.cell? ⟨gb217, 10, none⟩ = some (.int .i64 a0_10) := (blk_cell BK217.out 10).trans rfl
                  have hcz75_11 : wc.cell? ⟨gb217, 11, none⟩ = some (.slice A0_11 l0_11.length c0_11) := (blk_cell BK217.out 11).trans rfl
                  have hcz75_12 : wc.cell? ⟨gb217, 12, none⟩ = some (.int .u32 a0_12) := (blk_cell BK217.out 12).trans rfl
                  have hcz75_13 : wc.cell? ⟨gb217, 13, none⟩ = some (.bool a0_13) := (blk_cell BK217.out 13).trans rfl
                  have hcz75_14 : wc.cell? ⟨gb217, 14, none⟩ = some (.bool a0_14) := (blk_cell BK217.out 14).trans rfl
                  have hfz75_0 := blk_frozen BK217.out 0
                  have hfz75_1 := blk_frozen BK217.out 1
                  have hfz75_2 := blk_frozen BK217.out 2
                  have hfz75_3 := blk_frozen BK217.out 3
                  have hfz75_4 := blk_frozen BK217.out 4
                  have hfz75_5 := blk_frozen BK217.out 5
                  have hfz75_6 := blk_frozen BK217.out 6
                  have hfz75_7 := blk_frozen BK217.out 7
                  have hfz75_8 := blk_frozen BK217.out 8
                  have hfz75_9 := blk_frozen BK217.out 9
                  have hfz75_10 := blk_frozen BK217.out 10
                  have hfz75_11 := blk_frozen BK217.out 11
                  have hfz75_12 := blk_frozen BK217.out 12
                  have hfz75_13 := blk_frozen BK217.out 13
                  have hfz75_14 := blk_frozen BK217.out 14
                  go_wp2_with (first | ((with_reducible refine gate_dst (N := 86) rfl ?_); refine Kd.R_lit (Kd.int .i64) _ 3 ?hg (N := 86) ?hd (xs := ([a0_10] : List Int)) (inner := [.int .i64 a0_10]) (ok := fun _ => True) (okp := fun _ => True) ?hr ?hp (fun _ hk => hk) trivial (Below.refl _ _) (Nat.le_refl _) (by simp) ?_; (case hd => rfl); (case hg => rfl); (case hr => first | (go_simp; done) | (go_simp; rfl)); (case hp => exact (Reps.one (show Kd.M (Kd.int .i64) _ _ _ a0_10 [.int .i64 a0_10] from rfl) (Reps.none _ _))); intro v252 w76 ho77 hb hg_ hnew_; clear hg_ hnew_; (first | rw [← Ny251.out] at ho77 | (simp only [Int.reduceToNat] at ho77; rw [← Ny251.out] at ho77)); have n0_ := Aside0.mk (Kd.R_lower ho77 (below_size (by repeat (first | (with_reducible first | exact HB.out | apply below_alloc | apply pw_below_drewN | apply below_drew1 | refine below_set ?_ GE217.out) | exact HB.out)))); have n1_ := Aside0.mk (blk_below (g := gb217) (o := .cells #[.int .i64 a0_0, .int .i64 a0_1, .int .i64 a0_2, .string a0_3, .int .i64 a0_4, .int .i64 a0_5, .int .i64 a0_6, .int .i64 a0_7, .int .i32 a0_8, .string a0_9, .int .i64 a0_10, .slice A0_11 l0_11.length c0_11, .int .u32 a0_12, .bool a0_13, .bool a0_14] 27 (0, 0)) (by (with_reducible repeat (first | refine blk_drewN ?_ _ | refine blk_drew ?_ | refine blk_alloc ?_ _)); exact BK217.out) hb); have n2_ := Aside0.mk (below_step (by repeat (first | (with_reducible first | exact HB.out | apply below_alloc | apply pw_below_drewN | apply below_drew1 | refine below_set ?_ GE217.out) | exact HB.out)) hb); clear BK217; clear HB; have HO253 := n0_; have BK217 := n1_; have HB := n2_; clear n0_ n1_ n2_; clear hb ho77))
                  go_ret
                  exact ⟨_, by first | rfl | (simp [errW_none, errW_some] <;> rfl) | (simp [*, errW_none, errW_some] <;> rfl), by (with_reducible repeat (first | apply Kd.R_alloc | apply Kd.R_drewN | apply Kd.R_drew)); exact HO253.out, by repeat (first | (with_reducible first | exact HB.out | apply below_alloc | apply pw_below_drewN | apply below_drew1 | refine below_set ?_ GE217.out) | exact HB.out)⟩
                · rw [if_neg c74] at H
                  have c74b0 : (a0_10 == 1) = false := beq_eq_false_iff_ne.mpr c74
                  have c74b1 : (a0_10 != 1) = true := bne_iff_ne.mpr c74
                  by_cases c78 : a0_10 = 2
                  · rw [if_pos c78] at H
                    have c78b0 : (a0_10 == 2) = true := beq_iff_eq.mpr c78
                    have c78b1 : (a0_10 != 2) = false := bne_eq_false_iff_eq.mpr c78
                    clear c78
                    obtain ⟨y254, hy254⟩ : ∃ y_ : List Int, y_ = (([a0_10] : List Int)) := ⟨_, rfl⟩
                    replace H : (some y254) = some r := by first | (rw [hy254]; with_reducible exact H) | (have H2_ := (Option.bind_some _ _).symm.trans H; rw [hy254]; with_reducible exact H2_) | (have H2_ := (Option.bind_some _ _).symm.trans H; with_reducible exact H2_) | with_reducible exact H | (rw [hy254]; exact H) | exact H
                    have Ny254 := Aside0.mk hy254
                    clear hy254
                    obtain rfl := Option.some.inj H
                    have hcz79_0 : wc.cell? ⟨gb217, 0, none⟩ = some (.int .i64 a0_0) := (blk_cell BK217.out 0).trans rfl
                    have hcz79_1 : wc.cell? ⟨gb217, 1, none⟩ = some (.int .i64 a0_1) := (blk_cell BK217.out 1).trans rfl
                    have hcz79_2 : wc.cell? ⟨gb217, 2, none⟩ = some (.int .i64 a0_2) := (blk_cell BK217.out 2).trans rfl
                    have hcz79_3 : wc.cell? ⟨gb217, 3, none⟩ = some (.string a0_3) := (blk_cell BK217.out 3).trans rfl
                    have hcz79_4 : wc.cell? ⟨gb217, 4, none⟩ = some (.int .i64 a0_4) := (blk_cell BK217.out 4).trans rfl
                    have hcz79_5 : wc.cell? ⟨gb217, 5, none⟩ = some (.int .i64 a0_5) := (blk_cell BK217.out 5).trans rfl
                    have hcz79_6 : wc.cell? ⟨gb217, 6, none⟩ = some (.int .i64 a0_6) := (blk_cell BK217.out 6).trans rfl
                    have hcz79_7 : wc.cell? ⟨gb217, 7, none⟩ = some (.int .i64 a0_7) := (blk_cell BK217.out 7).trans rfl
                    have hcz79_8 : wc.cell? ⟨gb217, 8, none⟩ = some (.int .i32 a0_8) := (blk_cell BK217.out 8).trans rfl
                    have hcz79_9 : wc.cell? ⟨gb217, 9, none⟩ = some (.string a0_9) := (blk_cell BK217.out 9).trans rfl
                    have hcz79_10 : wc.cell? ⟨gb217, 10, none⟩ = some (.int .i64 a0_10) := (blk_cell BK217.out 10).trans rfl
                    have hcz79_11 : wc.cell? ⟨gb217, 11, none⟩ = some (.slice A0_11 l0_11.length c0_11) := (blk_cell BK217.out 11).trans rfl
                    have hcz79_12 : wc.cell? ⟨gb217, 12, none⟩ = some (.int .u32 a0_12) := (blk_cell BK217.out 12).trans rfl
                    have hcz79_13 : wc.cell? ⟨gb217, 13, none⟩ = some (.bool a0_13) := (blk_cell BK217.out 13).trans rfl
                    have hcz79_14 : wc.cell? ⟨gb217, 14, none⟩ = some (.bool a0_14) := (blk_cell BK217.out 14).trans rfl
                    have hfz79_0 := blk_frozen BK217.out 0
                    have hfz79_1 := blk_frozen BK217.out 1
                    have hfz79_2 := blk_frozen BK217.out 2
                    have hfz79_3 := blk_frozen BK217.out 3
                    have hfz79_4 := blk_frozen BK217.out 4
                    have hfz79_5 := blk_frozen BK217.out 5
                    have hfz79_6 := blk_frozen BK217.out 6
                    have hfz79_7 := blk_frozen BK217.out 7
                    have hfz79_8 := blk_frozen BK217.out 8
                    have hfz79_9 := blk_frozen BK217.out 9
                    have hfz79_10 := blk_frozen BK217.out 10
                    have hfz79_11 := blk_frozen BK217.out 11
                    have hfz79_12 := blk_frozen BK217.out 12
                    have hfz79_13 := blk_frozen BK217.out 13
                    have hfz79_14 := blk_frozen BK217.out 14
                    go_wp2_with (first | ((with_reducible refine gate_dst (N := 86) rfl ?_); refine Kd.R_lit (Kd.int .i64) _ 3 ?hg (N := 86) ?hd (xs := ([a0_10] : List Int)) (inner := [.int .i64 a0_10]) (ok := fun _ => True) (okp := fun _ => True) ?hr ?hp (fun _ hk => hk) trivial (Below.refl _ _) (Nat.le_refl _) (by simp) ?_; (case hd => rfl); (case hg => rfl); (case hr => first | (go_simp; done) | (go_simp; rfl)); (case hp => exact (Reps.one (show Kd.M (Kd.int .i64) _ _ _ a0_10 [.int .i64 a0_10] from rfl) (Reps.none _ _))); intro v255 w80 ho81 hb hg_ hnew_; clear hg_ hnew_; (first | rw [← Ny254.out] at ho81 | (simp only [Int.reduceToNat] at ho81; rw [← Ny254.out] at ho81)); have n0_ := Aside0.mk (Kd.R_lower ho81 (below_size (by repeat (first | (with_reducible first | exact HB.out | apply below_alloc | apply pw_below_drewN | apply below_drew1 | refine below_set ?_ GE217.out) | exact HB.out)))); have n1_ := Aside0.mk (blk_below (g := gb217) (o := .cells #[.int .i64 a0_0, .int .i64 a0_1, .int .i64 a0_2, .string a0_3, .int .i64 a0_4, .int .i64 a0_5, .int .i64 a0_6, .int .i64 a0_7, .int .i32 a0_8, .string a0_9, .int .i64 a0_10, .slice A0_11 l0_11.length c0_11, .int .u32 a0_12, .bool a0_13, .bool a0_14] 27 (0, 0)) (by (with_reducible repeat (first | refine blk_drewN ?_ _ | refine blk_drew ?_ | refine blk_alloc ?_ _)); exact BK217.out) hb); have n2_ := Aside0.mk (below_step (by repeat (first | (with_reducible first | exact HB.out | apply below_alloc | apply pw_below_drewN | apply below_drew1 | refine below_set ?_ GE217.out) | exact HB.out)) hb); clear BK217; clear HB; have HO256 := n0_; have BK217 := n1_; have HB := n2_; clear n0_ n1_ n2_; clear hb ho81))
                    go_ret
                    exact ⟨_, by first | rfl | (simp [errW_none, errW_some] <;> rfl) | (simp [*, errW_none, errW_some] <;> rfl), by (with_reducible repeat (first | apply Kd.R_alloc | apply Kd.R_drewN | apply Kd.R_drew)); exact HO256.out, by repeat (first | (with_reducible first | exact HB.out | apply below_alloc | apply pw_below_drewN | apply below_drew1 | refine below_set ?_ GE217.out) | exact HB.out)⟩
                  · rw [if_neg c78] at H
                    have c78b0 : (a0_10 == 2) = false := beq_eq_false_iff_ne.mpr c78
                    have c78b1 : (a0_10 != 2) = true := bne_iff_ne.mpr c78
                    obtain ⟨y257, hy257⟩ : ∃ y_ : List Int, y_ = (([4] : List Int)) := ⟨_, rfl⟩
                    replace H : (some y257) = some r := by first | (rw [hy257]; with_reducible exact H) | (have H2_ := (Option.bind_some _ _).symm.trans H; rw [hy257]; with_reducible exact H2_) | (have H2_ := (Option.bind_some _ _).symm.trans H; with_reducible exact H2_) | with_reducible exact H | (rw [hy257]; exact H) | exact H
                    have Ny257 := Aside0.mk hy257
                    clear hy257
                    obtain rfl := Option.some.inj H
                    have hcz82_0 : wc.cell? ⟨gb217, 0, none⟩ = some (.int .i64 a0_0) := (blk_cell BK217.out 0).trans rfl
                    have hcz82_1 : wc.cell? ⟨gb217, 1, none⟩ = some (.int .i64 a0_1) := (blk_cell BK217.out 1).trans rfl
                    have hcz82_2 : wc.cell? ⟨gb217, 2, none⟩ = some (.int .i64 a0_2) := (blk_cell BK217.out 2).trans rfl
                    have hcz82_3 : wc.cell? ⟨gb217, 3, none⟩ = some (.string a0_3) := (blk_cell BK217.out 3).trans rfl
                    have hcz82_4 : wc.cell? ⟨gb217, 4, none⟩ = some (.int .i64 a0_4) := (blk_cell BK217.out 4).trans rfl
                    have hcz82_5 : wc.cell? ⟨gb217, 5, none⟩ = some (.int .i64 a0_5) := (blk_cell BK217.out 5).trans rfl
                    have hcz82_6 : wc.cell? ⟨gb217, 6, none⟩ = some (.int .i64 a0_6) := (blk_cell BK217.out 6).trans rfl
                    have hcz82_7 : wc.cell? ⟨gb217, 7, none⟩ = some (.int .i64 a0_7) := (blk_cell BK217.out 7).trans rfl
                    have hcz82_8 : wc.cell? ⟨gb217, 8, none⟩ = some (.int .i32 a0_8) := (blk_cell BK217.out 8).trans rfl
                    have hcz82_9 : wc.cell? ⟨gb217, 9, none⟩ = some (.string a0_9) := (blk_cell BK217.out 9).trans rfl
                    have hcz82_10 : wc.cell? ⟨gb217, 10, none⟩ = some (.int .i64 a0_10) := (blk_cell BK217.out 10).trans rfl
                    have hcz82_11 : wc.cell? ⟨gb217, 11, none⟩ = some (.slice A0_11 l0_11.length c0_11) := (blk_cell BK217.out 11).trans rfl
                    have hcz82_12 : wc.cell? ⟨gb217, 12, none⟩ = some (.int .u32 a0_12) := (blk_cell BK217.out 12).trans rfl
                    have hcz82_13 : wc.cell? ⟨gb217, 13, none⟩ = some (.bool a0_13) := (blk_cell BK217.out 13).trans rfl
                    have hcz82_14 : wc.cell? ⟨gb217, 14, none⟩ = some (.bool a0_14) := (blk_cell BK217.out 14).trans rfl
                    have hfz82_0 := blk_frozen BK217.out 0
                    have hfz82_1 := blk_frozen BK217.out 1
                    have hfz82_2 := blk_frozen BK217.out 2
                    have hfz82_3 := blk_frozen BK217.out 3
                    have hfz82_4 := blk_frozen BK217.out 4
                    have hfz82_5 := blk_frozen BK217.out 5
                    have hfz82_6 := blk_frozen BK217.out 6
                    have hfz82_7 := blk_frozen BK217.out 7
                    have hfz82_8 := blk_frozen BK217.out 8
                    have hfz82_9 := blk_frozen BK217.out 9
                    have hfz82_10 := blk_frozen BK217.out 10
                    have hfz82_11 := blk_frozen BK217.out 11
                    have hfz82_12 := blk_frozen BK217.out 12
                    have hfz82_13 := blk_frozen BK217.out 13
                    have hfz82_14 := blk_frozen BK217.out 14
                    go_wp2_with (first | ((with_reducible refine gate_dst (N := 87) rfl ?_); refine Kd.R_lit (Kd.int .i64) _ 3 ?hg (N := 87) ?hd (xs := ([4] : List Int)) (inner := [.int .i64 4]) (ok := fun _ => True) (okp := fun _ => True) ?hr ?hp (fun _ hk => hk) trivial (Below.refl _ _) (Nat.le_refl _) (by simp) ?_; (case hd => rfl); (case hg => rfl); (case hr => first | (go_simp; done) | (go_simp; rfl)); (case hp => exact (Reps.one (show Kd.M (Kd.int .i64) _ _ _ 4 [.int .i64 4] from rfl) (Reps.none _ _))); intro v258 w83 ho84 hb hg_ hnew_; clear hg_ hnew_; (first | rw [← Ny257.out] at ho84 | (simp only [Int.reduceToNat] at ho84; rw [← Ny257.out] at ho84)); have n0_ := Aside0.mk (Kd.R_lower ho84 (below_size (by repeat (first | (with_reducible first | exact HB.out | apply below_alloc | apply pw_below_drewN | apply below_drew1 | refine below_set ?_ GE217.out) | exact HB.out)))); have n1_ := Aside0.mk (blk_below (g := gb217) (o := .cells #[.int .i64 a0_0, .int .i64 a0_1, .int .i64 a0_2, .string a0_3, .int .i64 a0_4, .int .i64 a0_5, .int .i64 a0_6, .int .i64 a0_7, .int .i32 a0_8, .string a0_9, .int .i64 a0_10, .slice A0_11 l0_11.length c0_11, .int .u32 a0_12, .bool a0_13, .bool a0_14] 27 (0, 0)) (by (with_reducible repeat (first | refine blk_drewN ?_ _ | refine blk_drew ?_ | refine blk_alloc ?_ _)); exact BK217.out) hb); have n2_ := Aside0.mk (below_step (by repeat (first | (with_reducible first | exact HB.out | apply below_alloc | apply pw_below_drewN | apply below_drew1 | refine below_set ?_ GE217.out) | exact HB.out)) hb); clear BK217; clear HB; have HO259 := n0_; have BK217 := n1_; have HB := n2_; clear n0_ n1_ n2_; clear hb ho84))
                    go_ret
                    exact ⟨_, by first | rfl | (simp [errW_none, errW_some] <;> rfl) | (simp [*, errW_none, errW_some] <;> rfl), by (with_reducible repeat (first | apply Kd.R_alloc | apply Kd.R_drewN | apply Kd.R_drew)); exact HO259.out, by repeat (first | (with_reducible first | exact HB.out | apply below_alloc | apply pw_below_drewN | apply below_drew1 | refine below_set ?_ GE217.out) | exact HB.out)⟩
              · rw [if_neg c73] at H
                have c73b0 : (a0_0 == 8) = false := beq_eq_false_iff_ne.mpr c73
                have c73b1 : (a0_0 != 8) = true := bne_iff_ne.mpr c73
                by_cases c85 : a0_0 = 9
                · rw [if_pos c85] at H
                  have c85b0 : (a0_0 == 9) = true := beq_iff_eq.mpr c85
                  have c85b1 : (a0_0 != 9) = false := bne_eq_false_iff_eq.mpr c85
                  clear c85
                  obtain ⟨y260, hy260⟩ : ∃ y_ : List Int, y_ = (([(a0_3.size : Int)] : List Int)) := ⟨_, rfl⟩
                  replace H : (some y260) = some r := by first | (rw [hy260]; with_reducible exact H) | (have H2_ := (Option.bind_some _ _).symm.trans H; rw [hy260]; with_reducible exact H2_) | (have H2_ := (Option.bind_some _ _).symm.trans H; with_reducible exact H2_) | with_reducible exact H | (rw [hy260]; exact H) | exact H
                  have Ny260 := Aside0.mk hy260
                  clear hy260
                  obtain rfl := Option.some.inj H
                  have hcz86_0 : wc.cell? ⟨gb217, 0, none⟩ = some (.int .i64 a0_0) := (blk_cell BK217.out 0).trans rfl
                  have hcz86_1 : wc.cell? ⟨gb217, 1, none⟩ = some (.int .i64 a0_1) := (blk_cell BK217.out 1).trans rfl
                  have hcz86_2 : wc.cell? ⟨gb217, 2, none⟩ = some (.int .i64 a0_2) := (blk_cell BK217.out 2).trans rfl
                  have hcz86_3 : wc.cell? ⟨gb217, 3, none⟩ = some (.string a0_3) := (blk_cell BK217.out 3).trans rfl
                  have hcz86_4 : wc.cell? ⟨gb217, 4, none⟩ = some (.int .i64 a0_4) := (blk_cell BK217.out 4).trans rfl
                  have hcz86_5 : wc.cell? ⟨gb217, 5, none⟩ = some (.int .i64 a0_5) := (blk_cell BK217.out 5).trans rfl
                  have hcz86_6 : wc.cell? ⟨gb217, 6, none⟩ = some (.int .i64 a0_6) := (blk_cell BK217.out 6).trans rfl
                  have hcz86_7 : wc.cell? ⟨gb217, 7, none⟩ = some (.int .i64 a0_7) := (blk_cell BK217.out 7).trans rfl
                  have hcz86_8 : wc.cell? ⟨gb217, 8, none⟩ = some (.int .i32 a0_8) := (blk_cell BK217.out 8).trans rfl
                  have hcz86_9 : wc.cell? ⟨gb217, 9, none⟩ = some (.string a0_9) := (blk_cell BK217.out 9).trans rfl
                  have hcz86_10 : wc.cell? ⟨gb217, 10, none⟩ = some (.int .i64 a0_10) := (blk_cell BK217.out 10).trans rfl
                  have hcz86_11 : wc.cell? ⟨gb217, 11, none⟩ = some (.slice A0_11 l0_11.length c0_11) := (blk_cell BK217.out 11).trans rfl
                  have hcz86_12 : wc.cell? ⟨gb217, 12, none⟩ = some (.int .u32 a0_12) := (blk_cell BK217.out 12).trans rfl
                  have hcz86_13 : wc.cell? ⟨gb217, 13, none⟩ = some (.bool a0_13) := (blk_cell BK217.out 13).trans rfl
                  have hcz86_14 : wc.cell? ⟨gb217, 14, none⟩ = some (.bool a0_14) := (blk_cell BK217.out 14).trans rfl
                  have hfz86_0 := blk_frozen BK217.out 0
                  have hfz86_1 := blk_frozen BK217.out 1
                  have hfz86_2 := blk_frozen BK217.out 2
                  have hfz86_3 := blk_frozen BK217.out 3
                  have hfz86_4 := blk_frozen BK217.out 4
                  have hfz86_5 := blk_frozen BK217.out 5
                  have hfz86_6 := blk_frozen BK217.out 6
                  have hfz86_7 := blk_frozen BK217.out 7
                  have hfz86_8 := blk_frozen BK217.out 8
                  have hfz86_9 := blk_frozen BK217.out 9
                  have hfz86_10 := blk_frozen BK217.out 10
                  have hfz86_11 := blk_frozen BK217.out 11
                  have hfz86_12 := blk_frozen BK217.out 12
                  have hfz86_13 := blk_frozen BK217.out 13
                  have hfz86_14 := blk_frozen BK217.out 14
                  go_wp2_with (first | ((with_reducible refine gate_dst (N := 93) rfl ?_); refine Kd.R_lit (Kd.int .i64) _ 3 ?hg (N := 93) ?hd (xs := ([(a0_3.size : Int)] : List Int)) (inner := [.int .i64 (a0_3.size : Int)]) (ok := fun _ => True) (okp := fun _ => True) ?hr ?hp (fun _ hk => hk) trivial (Below.refl _ _) (Nat.le_refl _) (by simp) ?_; (case hd => rfl); (case hg => rfl); (case hr => first | (go_simp; done) | (go_simp; rfl)); (case hp => exact (Reps.one (show Kd.M (Kd.int .i64) _ _ _ (a0_3.size : Int) [.int .i64 (a0_3.size : Int)] from rfl) (Reps.none _ _))); intro v261 w87 ho88 hb hg_ hnew_; clear hg_ hnew_; (first | rw [← Ny260.out] at ho88 | (simp only [Int.reduceToNat] at ho88; rw [← Ny260.out] at ho88)); have n0_ := Aside0.mk (Kd.R_lower ho88 (below_size (by repeat (first | (with_reducible first | exact HB.out | apply below_alloc | apply pw_below_drewN | apply below_drew1 | refine below_set ?_ GE217.out) | exact HB.out)))); have n1_ := Aside0.mk (blk_below (g := gb217) (o := .cells #[.int .i64 a0_0, .int .i64 a0_1, .int .i64 a0_2, .string a0_3, .int .i64 a0_4, .int .i64 a0_5, .int .i64 a0_6, .int .i64 a0_7, .int .i32 a0_8, .string a0_9, .int .i64 a0_10, .slice A0_11 l0_11.length c0_11, .int .u32 a0_12, .bool a0_13, .bool a0_14] 27 (0, 0)) (by (with_reducible repeat (first | refine blk_drewN ?_ _ | refine blk_drew ?_ | refine blk_alloc ?_ _)); exact BK217.out) hb); have n2_ := Aside0.mk (below_step (by repeat (first | (with_reducible first | exact HB.out | apply below_alloc | apply pw_below_drewN | apply below_drew1 | refine below_set ?_ GE217.out) | exact HB.out)) hb); clear BK217; clear HB; have HO262 := n0_; have BK217 := n1_; have HB := n2_; clear n0_ n1_ n2_; clear hb ho88))
                  go_ret
                  exact ⟨_, by first | rfl | (simp [errW_none, errW_some] <;> rfl) | (simp [*, errW_none, errW_some] <;> rfl), by (with_reducible repeat (first | apply Kd.R_alloc | apply Kd.R_drewN | apply Kd.R_drew)); exact HO262.out, by repeat (first | (with_reducible first | exact HB.out | apply below_alloc | apply pw_below_drewN | apply below_drew1 | refine below_set ?_ GE217.out) | exact HB.out)⟩
                · rw [if_neg c85] at H
                  have c85b0 : (a0_0 == 9) = false := beq_eq_false_iff_ne.mpr c85
                  have c85b1 : (a0_0 != 9) = true := bne_iff_ne.mpr c85
                  by_cases c89 : a0_0 = 7
                  · rw [if_pos c89] at H
                    have c89b0 : (a0_0 == 7) = true := beq_iff_eq.mpr c89
                    have c89b1 : (a0_0 != 7) = false := bne_eq_false_iff_eq.mpr c89
                    clear c89
                    obtain ⟨y263, hy263⟩ : ∃ y_ : List Int, y_ = (([8] : List Int)) := ⟨_, rfl⟩
                    replace H : (some y263) = some r := by first | (rw [hy263]; with_reducible exact H) | (have H2_ := (Option.bind_some _ _).symm.trans H; rw [hy263]; with_reducible exact H2_) | (have H2_ := (Option.bind_some _ _).symm.trans H; with_reducible exact H2_) | with_reducible exact H | (rw [hy263]; exact H) | exact H
                    have Ny263 := Aside0.mk hy263
                    clear hy263
                    obtain rfl := Option.some.inj H
                    go_wp2_with (first | ((with_reducible refine gate_dst (N := 96) rfl ?_); refine Kd.R_lit (Kd.int .i64) _ 3 ?hg (N := 96) ?hd (xs := ([8] : List Int)) (inner := [.int .i64 8]) (ok := fun _ => True) (okp := fun _ => True) ?hr ?hp (fun _ hk => hk) trivial (Below.refl _ _) (Nat.le_refl _) (by simp) ?_; (case hd => rfl); (case hg => rfl); (case hr => first | (go_simp; done) | (go_simp; rfl)); (case hp => exact (Reps.one (show Kd.M (Kd.int .i64) _ _ _ 8 [.int .i64 8] from rfl) (Reps.none _ _))); intro v264 w90 ho91 hb hg_ hnew_; clear hg_ hnew_; (first | rw [← Ny263.out] at ho91 | (simp only [Int.reduceToNat] at ho91; rw [← Ny263.out] at ho91)); have n0_ := Aside0.mk (Kd.R_lower ho91 (below_size (by repeat (first | (with_reducible first | exact HB.out | apply below_alloc | apply pw_below_drewN | apply below_drew1 | refine below_set ?_ GE217.out) | exact HB.out)))); have n1_ := Aside0.mk (blk_below (g := gb217) (o := .cells #[.int .i64 a0_0, .int .i64 a0_1, .int .i64 a0_2, .string a0_3, .int .i64 a0_4, .int .i64 a0_5, .int .i64 a0_6, .int .i64 a0_7, .int .i32 a0_8, .string a0_9, .int .i64 a0_10, .slice A0_11 l0_11.length c0_11, .int .u32 a0_12, .bool a0_13, .bool a0_14] 27 (0, 0)) (by (with_reducible repeat (first | refine blk_drewN ?_ _ | refine blk_drew ?_ | refine blk_alloc ?_ _)); exact BK217.out) hb); have n2_ := Aside0.mk (below_step (by repeat (first | (with_reducible first | exact HB.out | apply below_alloc | apply pw_below_drewN | apply below_drew1 | refine below_set ?_ GE217.out) | exact HB.out)) hb); clear BK217; clear HB; have HO265 := n0_; have BK217 := n1_; have HB := n2_; clear n0_ n1_ n2_; clear hb ho91))
                    go_ret
                    exact ⟨_, by first | rfl | (simp [errW_none, errW_some] <;> rfl) | (simp [*, errW_none, errW_some] <;> rfl), by (with_reducible repeat (first | apply Kd.R_alloc | apply Kd.R_drewN | apply Kd.R_drew)); exact HO265.out, by repeat (first | (with_reducible first | exact HB.out | apply below_alloc | apply pw_below_drewN | apply below_drew1 | refine below_set ?_ GE217.out) | exact HB.out)⟩
                  · rw [if_neg c89] at H
                    have c89b0 : (a0_0 == 7) = false := beq_eq_false_iff_ne.mpr c89
                    have c89b1 : (a0_0 != 7) = true := bne_iff_ne.mpr c89
                    obtain ⟨y266, hy266⟩ : ∃ y_ : List Int, y_ = (([0] : List Int)) := ⟨_, rfl⟩
                    replace H : (some y266) = some r := by first | (rw [hy266]; with_reducible exact H) | (have H2_ := (Option.bind_some _ _).symm.trans H; rw [hy266]; with_reducible exact H2_) | (have H2_ := (Option.bind_some _ _).symm.trans H; with_reducible exact H2_) | with_reducible exact H | (rw [hy266]; exact H) | exact H
                    have Ny266 := Aside0.mk hy266
                    clear hy266
                    obtain rfl := Option.some.inj H
                    go_wp2_with (first | ((with_reducible refine gate_dst (N := 97) rfl ?_); refine Kd.R_lit (Kd.int .i64) _ 3 ?hg (N := 97) ?hd (xs := ([0] : List Int)) (inner := [.int .i64 0]) (ok := fun _ => True) (okp := fun _ => True) ?hr ?hp (fun _ hk => hk) trivial (Below.refl _ _) (Nat.le_refl _) (by simp) ?_; (case hd => rfl); (case hg => rfl); (case hr => first | (go_simp; done) | (go_simp; rfl)); (case hp => exact (Reps.one (show Kd.M (Kd.int .i64) _ _ _ 0 [.int .i64 0] from rfl) (Reps.none _ _))); intro v267 w92 ho93 hb hg_ hnew_; clear hg_ hnew_; (first | rw [← Ny266.out] at ho93 | (simp only [Int.reduceToNat] at ho93; rw [← Ny266.out] at ho93)); have n0_ := Aside0.mk (Kd.R_lower ho93 (below_size (by repeat (first | (with_reducible first | exact HB.out | apply below_alloc | apply pw_below_drewN | apply below_drew1 | refine below_set ?_ GE217.out) | exact HB.out)))); have n1_ := Aside0.mk (blk_below (g := gb217) (o := .cells #[.int .i64 a0_0, .int .i64 a0_1, .int .i64 a0_2, .string a0_3, .int .i64 a0_4, .int .i64 a0_5, .int .i64 a0_6, .int .i64 a0_7, .int .i32 a0_8, .string a0_9, .int .i64 a0_10, .slice A0_11 l0_11.length c0_11, .int .u32 a0_12, .bool a0_13, .bool a0_14] 27 (0, 0)) (by (with_reducible repeat (first | refine blk_drewN ?_ _ | refine blk_drew ?_ | refine blk_alloc ?_ _)); exact BK217.out) hb); have n2_ := Aside0.mk (below_step (by repeat (first | (with_reducible first | exact HB.out | apply below_alloc | apply pw_below_drewN | apply below_drew1 | refine below_set ?_ GE217.out) | exact HB.out)) hb); clear BK217; clear HB; have HO268 := n0_; have BK217 := n1_; have HB := n2_; clear n0_ n1_ n2_; clear hb ho93))
                    go_ret
                    exact ⟨_, by first | rfl | (simp [errW_none, errW_some] <;> rfl) | (simp [*, errW_none, errW_some] <;> rfl), by (with_reducible repeat (first | apply Kd.R_alloc | apply Kd.R_drewN | apply Kd.R_drew)); exact HO268.out, by repeat (first | (with_reducible first | exact HB.out | apply below_alloc | apply pw_below_drewN | apply below_drew1 | refine below_set ?_ GE217.out) | exact HB.out)⟩

end Go.Proofs.Ytbpihhggeakhoaa.PTwo
