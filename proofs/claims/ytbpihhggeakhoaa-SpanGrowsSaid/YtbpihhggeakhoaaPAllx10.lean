-- Written by wip/tools/fprint.py: the kit's print.py, run with functions of this session's own put in. Not trusted: Lean checks it.
import Derived.Test.YtbpihhggeakhoaaPAllx0
import Derived.Test.YtbpihhggeakhoaaPAllx5
import Derived.Test.YtbpihhggeakhoaaPAllx8
namespace Go.Proofs.Ytbpihhggeakhoaa.PAll
open Go.RowKit Go.Proofs.YtbpihhggeakhoaaW.PrintWords Go.Proofs.YtbpihhggeakhoaaW.PrintLast Go.Proofs.YtbpihhggeakhoaaW.PrintMore
attribute [local go_sem] max2_int min2_int max_two min_two max_three min_three max_four min_four   -- for this text's walks alone
set_option linter.unusedVariables false
set_option linter.unusedSimpArgs false

/-! ### typecaselaw18_SpanGrows: function 5 -/
mutual
def typecaselaw18_SpanGrows.j0 : Nat → Int → Int → Int → Bool → Int → Int → Int → ByteArray → Int → Int → Int → Int → Int → ByteArray → Int → List (S86) → Int → Bool → Bool → Option (Bool)
  | 0, _, _, _, _, _, _, _, _, _, _, _, _, _, _, _, _, _, _, _ => none
  | k + 1, x1, x2, x3, x23, x298000, x298001, x298002, x298003, x298004, x298005, x298006, x298007, x298008, x298009, x298010, x298011, x298012, x298013, x298014 => if x23 = true then (some true) else ((span_Next.f k x298000 x298001 x298002 x298003 x298004 x298005 x298006 x298007 x298008 x298009 x298010 x298011 x298012 x298013 x298014 x1).bind fun bt300 => (if bt300.2 = true then ((span_Reaches.f k x298000 x298001 x298002 x298003 x298004 x298005 x298006 x298007 x298008 x298009 x298010 x298011 x298012 x298013 x298014 bt300.1 x2).bind fun t302 => (typecaselaw18_SpanGrows.j1 k x1 x2 x3 (!t302) x298000 x298001 x298002 x298003 x298004 x298005 x298006 x298007 x298008 x298009 x298010 x298011 x298012 x298013 x298014)) else (typecaselaw18_SpanGrows.j1 k x1 x2 x3 false x298000 x298001 x298002 x298003 x298004 x298005 x298006 x298007 x298008 x298009 x298010 x298011 x298012 x298013 x298014)))
def typecaselaw18_SpanGrows.j1 : Nat → Int → Int → Int → Bool → Int → Int → Int → ByteArray → Int → Int → Int → Int → Int → ByteArray → Int → List (S86) → Int → Bool → Bool → Option (Bool)
  | 0, _, _, _, _, _, _, _, _, _, _, _, _, _, _, _, _, _, _, _ => none
  | k + 1, x1, x2, x3, x37, x298000, x298001, x298002, x298003, x298004, x298005, x298006, x298007, x298008, x298009, x298010, x298011, x298012, x298013, x298014 => if x37 = true then (some false) else (if (Int.tmod x3 2) = 0 then (if x2 ≥ 0 then (if x3 < 0 then (some true) else (if x3 > x2 then (some true) else (if x2 < 0 then (if x3 > 0 then (some true) else (if x3 < x2 then (some true) else ((span_Reaches.f k x298000 x298001 x298002 x298003 x298004 x298005 x298006 x298007 x298008 x298009 x298010 x298011 x298012 x298013 x298014 x1 x3).bind fun t303 => (some t303)))) else ((span_Reaches.f k x298000 x298001 x298002 x298003 x298004 x298005 x298006 x298007 x298008 x298009 x298010 x298011 x298012 x298013 x298014 x1 x3).bind fun t304 => (some t304))))) else (if x2 < 0 then (if x3 > 0 then (some true) else (if x3 < x2 then (some true) else ((span_Reaches.f k x298000 x298001 x298002 x298003 x298004 x298005 x298006 x298007 x298008 x298009 x298010 x298011 x298012 x298013 x298014 x1 x3).bind fun t305 => (some t305)))) else ((span_Reaches.f k x298000 x298001 x298002 x298003 x298004 x298005 x298006 x298007 x298008 x298009 x298010 x298011 x298012 x298013 x298014 x1 x3).bind fun t306 => (some t306)))) else (some true))
end
def typecaselaw18_SpanGrows.f (k : Nat) (a0_0 : Int) (a0_1 : Int) (a0_2 : Int) (a0_3 : ByteArray) (a0_4 : Int) (a0_5 : Int) (a0_6 : Int) (a0_7 : Int) (a0_8 : Int) (a0_9 : ByteArray) (a0_10 : Int) (l0_11 : List (S86)) (a0_12 : Int) (a0_13 : Bool) (a0_14 : Bool) (a1 : Int) (a2 : Int) (a3 : Int) : Option (Bool) := (typecaselaw18_awake.f k).bind fun t298 => (if t298 = true then (if (a0_3.size : Int) > 1000 then (typecaselaw18_SpanGrows.j0 k a1 a2 a3 true a0_0 a0_1 a0_2 a0_3 a0_4 a0_5 a0_6 a0_7 a0_8 a0_9 a0_10 l0_11 a0_12 a0_13 a0_14) else ((span_Reaches.f k a0_0 a0_1 a0_2 a0_3 a0_4 a0_5 a0_6 a0_7 a0_8 a0_9 a0_10 l0_11 a0_12 a0_13 a0_14 a1 a2).bind fun t299 => (typecaselaw18_SpanGrows.j0 k a1 a2 a3 (!t299) a0_0 a0_1 a0_2 a0_3 a0_4 a0_5 a0_6 a0_7 a0_8 a0_9 a0_10 l0_11 a0_12 a0_13 a0_14))) else (some false))
theorem typecaselaw18_SpanGrows.mono_l : ∀ k, (∀ y0 y1 y2 y3 y4 y5 y6 y7 y8 y9 y10 y11 y12 y13 y14 y15 y16 y17 y18, LeO (typecaselaw18_SpanGrows.j0 k y0 y1 y2 y3 y4 y5 y6 y7 y8 y9 y10 y11 y12 y13 y14 y15 y16 y17 y18) (typecaselaw18_SpanGrows.j0 (k + 1) y0 y1 y2 y3 y4 y5 y6 y7 y8 y9 y10 y11 y12 y13 y14 y15 y16 y17 y18)) ∧ (∀ y0 y1 y2 y3 y4 y5 y6 y7 y8 y9 y10 y11 y12 y13 y14 y15 y16 y17 y18, LeO (typecaselaw18_SpanGrows.j1 k y0 y1 y2 y3 y4 y5 y6 y7 y8 y9 y10 y11 y12 y13 y14 y15 y16 y17 y18) (typecaselaw18_SpanGrows.j1 (k + 1) y0 y1 y2 y3 y4 y5 y6 y7 y8 y9 y10 y11 y12 y13 y14 y15 y16 y17 y18))
  | 0 => ⟨fun _ _ _ _ _ _ _ _ _ _ _ _ _ _ _ _ _ _ _ r h => by simp [typecaselaw18_SpanGrows.j0] at h, fun _ _ _ _ _ _ _ _ _ _ _ _ _ _ _ _ _ _ _ r h => by simp [typecaselaw18_SpanGrows.j1] at h⟩
  | k + 1 => by
    obtain ⟨ih0, ih1⟩ := typecaselaw18_SpanGrows.mono_l k
    refine ⟨?_, ?_⟩
    · intro y0 y1 y2 y3 y4 y5 y6 y7 y8 y9 y10 y11 y12 y13 y14 y15 y16 y17 y18
      unfold typecaselaw18_SpanGrows.j0
      repeat' first
      | (with_reducible exact ih0 _ _ _ _ _ _ _ _ _ _ _ _ _ _ _ _ _ _ _)
      | (with_reducible exact ih1 _ _ _ _ _ _ _ _ _ _ _ _ _ _ _ _ _ _ _)
      | (with_reducible exact span_Next.mono _ _ _ _ _ _ _ _ _ _ _ _ _ _ _ _ _)
      | (with_reducible exact span_Reaches.mono _ _ _ _ _ _ _ _ _ _ _ _ _ _ _ _ _ _)
      | (with_reducible exact typecaselaw18_awake.mono _)
      | (with_reducible exact LeO.refl _)
      | (with_reducible exact LeO.none _)
      | (with_reducible refine LeO.ite ?_ ?_)
      | (with_reducible refine LeO.bind ?_ (fun _ => ?_))
      | exact ih0 _ _ _ _ _ _ _ _ _ _ _ _ _ _ _ _ _ _ _
      | exact ih1 _ _ _ _ _ _ _ _ _ _ _ _ _ _ _ _ _ _ _
      | exact span_Next.mono _ _ _ _ _ _ _ _ _ _ _ _ _ _ _ _ _
      | exact span_Reaches.mono _ _ _ _ _ _ _ _ _ _ _ _ _ _ _ _ _ _
      | exact typecaselaw18_awake.mono _
      | exact LeO.none _
      | refine LeO.ite ?_ ?_
      | refine LeO.bind ?_ (fun _ => ?_)
    · intro y0 y1 y2 y3 y4 y5 y6 y7 y8 y9 y10 y11 y12 y13 y14 y15 y16 y17 y18
      unfold typecaselaw18_SpanGrows.j1
      repeat' first
      | (with_reducible exact ih0 _ _ _ _ _ _ _ _ _ _ _ _ _ _ _ _ _ _ _)
      | (with_reducible exact ih1 _ _ _ _ _ _ _ _ _ _ _ _ _ _ _ _ _ _ _)
      | (with_reducible exact span_Next.mono _ _ _ _ _ _ _ _ _ _ _ _ _ _ _ _ _)
      | (with_reducible exact span_Reaches.mono _ _ _ _ _ _ _ _ _ _ _ _ _ _ _ _ _ _)
      | (with_reducible exact typecaselaw18_awake.mono _)
      | (with_reducible exact LeO.refl _)
      | (with_reducible exact LeO.none _)
      | (with_reducible refine LeO.ite ?_ ?_)
      | (with_reducible refine LeO.bind ?_ (fun _ => ?_))
      | exact ih0 _ _ _ _ _ _ _ _ _ _ _ _ _ _ _ _ _ _ _
      | exact ih1 _ _ _ _ _ _ _ _ _ _ _ _ _ _ _ _ _ _ _
      | exact span_Next.mono _ _ _ _ _ _ _ _ _ _ _ _ _ _ _ _ _
      | exact span_Reaches.mono _ _ _ _ _ _ _ _ _ _ _ _ _ _ _ _ _ _
      | exact typecaselaw18_awake.mono _
      | exact LeO.none _
      | refine LeO.ite ?_ ?_
      | refine LeO.bind ?_ (fun _ => ?_)
theorem typecaselaw18_SpanGrows.mono : ∀ a0 a1 a2 a3 a4 a5 a6 a7 a8 a9 a10 a11 a12 a13 a14 a15 a16 a17 k, LeO (typecaselaw18_SpanGrows.f k a0 a1 a2 a3 a4 a5 a6 a7 a8 a9 a10 a11 a12 a13 a14 a15 a16 a17) (typecaselaw18_SpanGrows.f (k + 1) a0 a1 a2 a3 a4 a5 a6 a7 a8 a9 a10 a11 a12 a13 a14 a15 a16 a17) := by
  intro a0 a1 a2 a3 a4 a5 a6 a7 a8 a9 a10 a11 a12 a13 a14 a15 a16 a17 k
  obtain ⟨ih0, ih1⟩ := typecaselaw18_SpanGrows.mono_l k
  unfold typecaselaw18_SpanGrows.f
  repeat' first
      | (with_reducible exact ih0 _ _ _ _ _ _ _ _ _ _ _ _ _ _ _ _ _ _ _)
      | (with_reducible exact ih1 _ _ _ _ _ _ _ _ _ _ _ _ _ _ _ _ _ _ _)
      | (with_reducible exact span_Next.mono _ _ _ _ _ _ _ _ _ _ _ _ _ _ _ _ _)
      | (with_reducible exact span_Reaches.mono _ _ _ _ _ _ _ _ _ _ _ _ _ _ _ _ _ _)
      | (with_reducible exact typecaselaw18_awake.mono _)
      | (with_reducible exact LeO.refl _)
      | (with_reducible exact LeO.none _)
      | (with_reducible refine LeO.ite ?_ ?_)
      | (with_reducible refine LeO.bind ?_ (fun _ => ?_))
      | exact ih0 _ _ _ _ _ _ _ _ _ _ _ _ _ _ _ _ _ _ _
      | exact ih1 _ _ _ _ _ _ _ _ _ _ _ _ _ _ _ _ _ _ _
      | exact span_Next.mono _ _ _ _ _ _ _ _ _ _ _ _ _ _ _ _ _
      | exact span_Reaches.mono _ _ _ _ _ _ _ _ _ _ _ _ _ _ _ _ _ _
      | exact typecaselaw18_awake.mono _
      | exact LeO.none _
      | refine LeO.ite ?_ ?_
      | refine LeO.bind ?_ (fun _ => ?_)
set_option maxHeartbeats 8000000 in
set_option maxRecDepth 100000 in
theorem typecaselaw18_SpanGrows.calls (k : Nat) (a0_0 : Int) (a0_1 : Int) (a0_2 : Int) (a0_3 : ByteArray) (a0_4 : Int) (a0_5 : Int) (a0_6 : Int) (a0_7 : Int) (a0_8 : Int) (a0_9 : ByteArray) (a0_10 : Int) (A0_11 : Option Addr) (c0_11 : Nat) (l0_11 : List (S86)) (a0_12 : Int) (a0_13 : Bool) (a0_14 : Bool) (a1 : Int) (a2 : Int) (a3 : Int) (r : Bool) (w : World) (hr0_11 : Kd.C k86 w A0_11 l0_11.length l0_11) (hc0_11 : l0_11.length ≤ c0_11) (h : typecaselaw18_SpanGrows.f k a0_0 a0_1 a0_2 a0_3 a0_4 a0_5 a0_6 a0_7 a0_8 a0_9 a0_10 l0_11 a0_12 a0_13 a0_14 a1 a2 a3 = some r) :
    Calls Try.prog 5 #[.agg #[.int .i64 a0_0, .int .i64 a0_1, .int .i64 a0_2, .string a0_3, .int .i64 a0_4, .int .i64 a0_5, .int .i64 a0_6, .int .i64 a0_7, .int .i32 a0_8, .string a0_9, .int .i64 a0_10, .slice A0_11 l0_11.length c0_11, .int .u32 a0_12, .bool a0_13, .bool a0_14], .int .i64 a1, .int .i32 a2, .int .i32 a3] w fun e w' => e = .returned (.bool r) ∧ Below w.heap.size w w' := by
  have hu27 := Try.underlying27
  have HR0_11 := Aside0.mk hr0_11
  have HC0_11 := Aside0.mk hc0_11
  clear hr0_11 hc0_11
  have HB := Aside0.mk (Below.refl w.heap.size w)
  have H : ((typecaselaw18_awake.f k).bind fun t298 => (if t298 = true then (if (a0_3.size : Int) > 1000 then (typecaselaw18_SpanGrows.j0 k a1 a2 a3 true a0_0 a0_1 a0_2 a0_3 a0_4 a0_5 a0_6 a0_7 a0_8 a0_9 a0_10 l0_11 a0_12 a0_13 a0_14) else ((span_Reaches.f k a0_0 a0_1 a0_2 a0_3 a0_4 a0_5 a0_6 a0_7 a0_8 a0_9 a0_10 l0_11 a0_12 a0_13 a0_14 a1 a2).bind fun t299 => (typecaselaw18_SpanGrows.j0 k a1 a2 a3 (!t299) a0_0 a0_1 a0_2 a0_3 a0_4 a0_5 a0_6 a0_7 a0_8 a0_9 a0_10 l0_11 a0_12 a0_13 a0_14))) else (some false))) = some r := h
  clear h
  replace H := Option.bind_eq_some_iff.mp H
  obtain ⟨t298, A50, H⟩ := H
  replace H : (if t298 = true then (if (a0_3.size : Int) > 1000 then (typecaselaw18_SpanGrows.j0 k a1 a2 a3 true a0_0 a0_1 a0_2 a0_3 a0_4 a0_5 a0_6 a0_7 a0_8 a0_9 a0_10 l0_11 a0_12 a0_13 a0_14) else ((span_Reaches.f k a0_0 a0_1 a0_2 a0_3 a0_4 a0_5 a0_6 a0_7 a0_8 a0_9 a0_10 l0_11 a0_12 a0_13 a0_14 a1 a2).bind fun t299 => (typecaselaw18_SpanGrows.j0 k a1 a2 a3 (!t299) a0_0 a0_1 a0_2 a0_3 a0_4 a0_5 a0_6 a0_7 a0_8 a0_9 a0_10 l0_11 a0_12 a0_13 a0_14))) else (some false)) = some r := H
  have A5 := Aside0.mk A50
  clear A50
  by_cases c6 : t298 = true
  · subst c6
    have H1 : (if (a0_3.size : Int) > 1000 then (typecaselaw18_SpanGrows.j0 k a1 a2 a3 true a0_0 a0_1 a0_2 a0_3 a0_4 a0_5 a0_6 a0_7 a0_8 a0_9 a0_10 l0_11 a0_12 a0_13 a0_14) else ((span_Reaches.f k a0_0 a0_1 a0_2 a0_3 a0_4 a0_5 a0_6 a0_7 a0_8 a0_9 a0_10 l0_11 a0_12 a0_13 a0_14 a1 a2).bind fun t299 => (typecaselaw18_SpanGrows.j0 k a1 a2 a3 (!t299) a0_0 a0_1 a0_2 a0_3 a0_4 a0_5 a0_6 a0_7 a0_8 a0_9 a0_10 l0_11 a0_12 a0_13 a0_14))) = some r := by rw [if_pos rfl] at H; exact H
    clear H
    have H := H1
    clear H1
    have HC7 := Aside0.mk H
    clear H
    go_enter Try.func5, Try.ntmps5
    go_upto_region 3 with (first | ((with_reducible refine gate_dst (N := 4) rfl ?_); refine box_event ?hg (N := 4) ?hd (cs := #[.int .i64 a0_0, .int .i64 a0_1, .int .i64 a0_2, .string a0_3, .int .i64 a0_4, .int .i64 a0_5, .int .i64 a0_6, .int .i64 a0_7, .int .i32 a0_8, .string a0_9, .int .i64 a0_10, .slice A0_11 l0_11.length c0_11, .int .u32 a0_12, .bool a0_13, .bool a0_14]) (t := 27) ?hr ?_; (case hd => rfl); (case hg => rfl); (case hr => first | (go_simp; done) | (go_simp; rfl)); intro gb297 hg w8 hbox hb; have n0_ := Aside0.mk (below_step (by repeat (first | (with_reducible first | exact HB.out | apply below_alloc | apply pw_below_drewN | apply below_drew1) | exact HB.out)) hb); have n1_ := Aside0.mk (hbox); have n2_ := Aside0.mk ((by rw [hg]; exact (below_size (by repeat (first | (with_reducible first | exact HB.out | apply below_alloc | apply pw_below_drewN | apply below_drew1) | exact HB.out))) : w.heap.size ≤ gb297)); have n3_ := Aside0.mk ((by rw [hg]; exact (below_size (by repeat (first | (with_reducible first | exact HB.out | apply below_alloc | apply pw_below_drewN | apply below_drew1) | exact HB.out))) : w.heap.size ≤ gb297)); clear HB; have HB := n0_; have BK297 := n1_; have GW297 := n2_; have GE297 := n3_; clear n0_ n1_ n2_ n3_; clear hb hbox hg) | ((with_reducible refine gate_callee (f := 7) rfl ?_); refine goesL_ (some 11) rfl rfl Try.func7 (by kernel_rfl) rfl #[] rfl (by (try simp only [List.map_toArray, List.map_cons, List.map_nil]); first | done | rfl | (simp only [List.length_drop, List.length_take]; rfl)) ?_; (with_reducible refine (typecaselaw18_awake.calls k  true _ A5.out).mono ?_); rintro e w9 ⟨rfl, hb⟩; refine ⟨_, rfl, ?_⟩; have n0_ := Aside0.mk (blk_below (g := gb297) (o := .cells #[.int .i64 a0_0, .int .i64 a0_1, .int .i64 a0_2, .string a0_3, .int .i64 a0_4, .int .i64 a0_5, .int .i64 a0_6, .int .i64 a0_7, .int .i32 a0_8, .string a0_9, .int .i64 a0_10, .slice A0_11 l0_11.length c0_11, .int .u32 a0_12, .bool a0_13, .bool a0_14] 27 (0, 0)) (by (with_reducible repeat (first | refine blk_drewN ?_ _ | refine blk_drew ?_ | refine blk_alloc ?_ _)); exact BK297.out) hb); have n1_ := Aside0.mk (below_step (by repeat (first | (with_reducible first | exact HB.out | apply below_alloc | apply pw_below_drewN | apply below_drew1 | refine below_set ?_ GE297.out) | exact HB.out)) hb); clear BK297; clear HB; have BK297 := n0_; have HB := n1_; clear n0_ n1_; (try clear hb); (try clear hb2); (try clear hk); (try clear hi)))
    (try simp only [Act.put, List.setIfInBounds_toArray, List.set_cons_zero, List.set_cons_succ])
    go_cut [23] (fun v23 wc => ∃ (kq : Nat) (x23_6 : Bool), v23 = .bool x23_6 ∧ Aside0 (typecaselaw18_SpanGrows.j0 kq a1 a2 a3 x23_6 a0_0 a0_1 a0_2 a0_3 a0_4 a0_5 a0_6 a0_7 a0_8 a0_9 a0_10 l0_11 a0_12 a0_13 a0_14 = some r) ∧ Aside0 (kq ≤ k) ∧ Aside0 (wc.heap[gb297]? = some (.cells #[.int .i64 a0_0, .int .i64 a0_1, .int .i64 a0_2, .string a0_3, .int .i64 a0_4, .int .i64 a0_5, .int .i64 a0_6, .int .i64 a0_7, .int .i32 a0_8, .string a0_9, .int .i64 a0_10, (.slice A0_11 l0_11.length c0_11), .int .u32 a0_12, .bool a0_13, .bool a0_14] 27 (0, 0))) ∧ Aside0 (Below w.heap.size w wc))
    case first =>
      have H := HC7.out
      clear HC7
      by_cases c10 : (a0_3.size : Int) > 1000
      · rw [if_pos c10] at H
        have c10b0 : decide (1000 < (a0_3.size : Int)) = true := decide_eq_true c10
        have c10b1 : decide (1000 < a0_3.size) = true := decide_eq_true (by omega)
        clear c10
        (first | rw [c10b0] | (simp only [i64_w, i32_w]; rw [c10b0]) | skip)
        have H' := Aside0.mk H
        clear H
        have hcz11_0 : w9.cell? ⟨gb297, 0, none⟩ = some (.int .i64 a0_0) := (blk_cell BK297.out 0).trans rfl
        have hcz11_1 : w9.cell? ⟨gb297, 1, none⟩ = some (.int .i64 a0_1) := (blk_cell BK297.out 1).trans rfl
        have hcz11_2 : w9.cell? ⟨gb297, 2, none⟩ = some (.int .i64 a0_2) := (blk_cell BK297.out 2).trans rfl
        have hcz11_3 : w9.cell? ⟨gb297, 3, none⟩ = some (.string a0_3) := (blk_cell BK297.out 3).trans rfl
        have hcz11_4 : w9.cell? ⟨gb297, 4, none⟩ = some (.int .i64 a0_4) := (blk_cell BK297.out 4).trans rfl
        have hcz11_5 : w9.cell? ⟨gb297, 5, none⟩ = some (.int .i64 a0_5) := (blk_cell BK297.out 5).trans rfl
        have hcz11_6 : w9.cell? ⟨gb297, 6, none⟩ = some (.int .i64 a0_6) := (blk_cell BK297.out 6).trans rfl
        have hcz11_7 : w9.cell? ⟨gb297, 7, none⟩ = some (.int .i64 a0_7) := (blk_cell BK297.out 7).trans rfl
        have hcz11_8 : w9.cell? ⟨gb297, 8, none⟩ = some (.int .i32 a0_8) := (blk_cell BK297.out 8).trans rfl
        have hcz11_9 : w9.cell? ⟨gb297, 9, none⟩ = some (.string a0_9) := (blk_cell BK297.out 9).trans rfl
        have hcz11_10 : w9.cell? ⟨gb297, 10, none⟩ = some (.int .i64 a0_10) := (blk_cell BK297.out 10).trans rfl
        have hcz11_11 : w9.cell? ⟨gb297, 11, none⟩ = some (.slice A0_11 l0_11.length c0_11) := (blk_cell BK297.out 11).trans rfl
        have hcz11_12 : w9.cell? ⟨gb297, 12, none⟩ = some (.int .u32 a0_12) := (blk_cell BK297.out 12).trans rfl
        have hcz11_13 : w9.cell? ⟨gb297, 13, none⟩ = some (.bool a0_13) := (blk_cell BK297.out 13).trans rfl
        have hcz11_14 : w9.cell? ⟨gb297, 14, none⟩ = some (.bool a0_14) := (blk_cell BK297.out 14).trans rfl
        have hfz11_0 := blk_frozen BK297.out 0
        have hfz11_1 := blk_frozen BK297.out 1
        have hfz11_2 := blk_frozen BK297.out 2
        have hfz11_3 := blk_frozen BK297.out 3
        have hfz11_4 := blk_frozen BK297.out 4
        have hfz11_5 := blk_frozen BK297.out 5
        have hfz11_6 := blk_frozen BK297.out 6
        have hfz11_7 := blk_frozen BK297.out 7
        have hfz11_8 := blk_frozen BK297.out 8
        have hfz11_9 := blk_frozen BK297.out 9
        have hfz11_10 := blk_frozen BK297.out 10
        have hfz11_11 := blk_frozen BK297.out 11
        have hfz11_12 := blk_frozen BK297.out 12
        have hfz11_13 := blk_frozen BK297.out 13
        have hfz11_14 := blk_frozen BK297.out 14
        go_wp2
        go_meet
        case rel => exact ⟨_, (true), (by first | rfl | (simp; done) | (simp [*]; done)), H', ⟨by first | omega | exact Nat.le_refl _⟩, ⟨by (with_reducible repeat (first | refine blk_drewN ?_ _ | refine blk_drew ?_ | refine blk_alloc ?_ _)); exact BK297.out⟩, ⟨by repeat (first | (with_reducible first | exact HB.out | apply below_alloc | apply pw_below_drewN | apply below_drew1 | refine below_set ?_ GE297.out) | exact HB.out)⟩⟩
      · rw [if_neg c10] at H
        have c10b0 : decide (1000 < (a0_3.size : Int)) = false := decide_eq_false c10
        have c10b1 : decide (1000 < a0_3.size) = false := decide_eq_false (by omega)
        clear c10
        (first | rw [c10b0] | (simp only [i64_w, i32_w]; rw [c10b0]) | skip)
        replace H := Option.bind_eq_some_iff.mp H
        obtain ⟨t299, A120, H⟩ := H
        replace H : (typecaselaw18_SpanGrows.j0 k a1 a2 a3 (!t299) a0_0 a0_1 a0_2 a0_3 a0_4 a0_5 a0_6 a0_7 a0_8 a0_9 a0_10 l0_11 a0_12 a0_13 a0_14) = some r := H
        have A12 := Aside0.mk A120
        clear A120
        have H' := Aside0.mk H
        clear H
        have hcz13_0 : w9.cell? ⟨gb297, 0, none⟩ = some (.int .i64 a0_0) := (blk_cell BK297.out 0).trans rfl
        have hcz13_1 : w9.cell? ⟨gb297, 1, none⟩ = some (.int .i64 a0_1) := (blk_cell BK297.out 1).trans rfl
        have hcz13_2 : w9.cell? ⟨gb297, 2, none⟩ = some (.int .i64 a0_2) := (blk_cell BK297.out 2).trans rfl
        have hcz13_3 : w9.cell? ⟨gb297, 3, none⟩ = some (.string a0_3) := (blk_cell BK297.out 3).trans rfl
        have hcz13_4 : w9.cell? ⟨gb297, 4, none⟩ = some (.int .i64 a0_4) := (blk_cell BK297.out 4).trans rfl
        have hcz13_5 : w9.cell? ⟨gb297, 5, none⟩ = some (.int .i64 a0_5) := (blk_cell BK297.out 5).trans rfl
        have hcz13_6 : w9.cell? ⟨gb297, 6, none⟩ = some (.int .i64 a0_6) := (blk_cell BK297.out 6).trans rfl
        have hcz13_7 : w9.cell? ⟨gb297, 7, none⟩ = some (.int .i64 a0_7) := (blk_cell BK297.out 7).trans rfl
        have hcz13_8 : w9.cell? ⟨gb297, 8, none⟩ = some (.int .i32 a0_8) := (blk_cell BK297.out 8).trans rfl
        have hcz13_9 : w9.cell? ⟨gb297, 9, none⟩ = some (.string a0_9) := (blk_cell BK297.out 9).trans rfl
        have hcz13_10 : w9.cell? ⟨gb297, 10, none⟩ = some (.int .i64 a0_10) := (blk_cell BK297.out 10).trans rfl
        have hcz13_11 : w9.cell? ⟨gb297, 11, none⟩ = some (.slice A0_11 l0_11.length c0_11) := (blk_cell BK297.out 11).trans rfl
        have hcz13_12 : w9.cell? ⟨gb297, 12, none⟩ = some (.int .u32 a0_12) := (blk_cell BK297.out 12).trans rfl
        have hcz13_13 : w9.cell? ⟨gb297, 13, none⟩ = some (.bool a0_13) := (blk_cell BK297.out 13).trans rfl
        have hcz13_14 : w9.cell? ⟨gb297, 14, none⟩ = some (.bool a0_14) := (blk_cell BK297.out 14).trans rfl
        have hfz13_0 := blk_frozen BK297.out 0
        have hfz13_1 := blk_frozen BK297.out 1
        have hfz13_2 := blk_frozen BK297.out 2
        have hfz13_3 := blk_frozen BK297.out 3
        have hfz13_4 := blk_frozen BK297.out 4
        have hfz13_5 := blk_frozen BK297.out 5
        have hfz13_6 := blk_frozen BK297.out 6
        have hfz13_7 := blk_frozen BK297.out 7
        have hfz13_8 := blk_frozen BK297.out 8
        have hfz13_9 := blk_frozen BK297.out 9
        have hfz13_10 := blk_frozen BK297.out 10
        have hfz13_11 := blk_frozen BK297.out 11
        have hfz13_12 := blk_frozen BK297.out 12
        have hfz13_13 := blk_frozen BK297.out 13
        have hfz13_14 := blk_frozen BK297.out 14
        go_wp2_with (first | (go_at_call 8; (with_reducible refine (span_Reaches.calls k a0_0 a0_1 a0_2 a0_3 a0_4 a0_5 a0_6 a0_7 a0_8 a0_9 a0_10 _ _ l0_11 a0_12 a0_13 a0_14 a1 a2 t299 _ ?side1 ?side2 A12.out).mono ?_); (case side1 => repeat (first | exact (Kd.C_below HR0_11.out HB.out) | (with_reducible refine Kd.C_alloc ?_ _) | (with_reducible refine Kd.C_drewN ?_ _) | (with_reducible refine Kd.C_drew ?_))); (case side2 => exact HC0_11.out); rintro e w14 ⟨rfl, hb⟩; have n0_ := Aside0.mk (blk_below (g := gb297) (o := .cells #[.int .i64 a0_0, .int .i64 a0_1, .int .i64 a0_2, .string a0_3, .int .i64 a0_4, .int .i64 a0_5, .int .i64 a0_6, .int .i64 a0_7, .int .i32 a0_8, .string a0_9, .int .i64 a0_10, .slice A0_11 l0_11.length c0_11, .int .u32 a0_12, .bool a0_13, .bool a0_14] 27 (0, 0)) (by (with_reducible repeat (first | refine blk_drewN ?_ _ | refine blk_drew ?_ | refine blk_alloc ?_ _)); exact BK297.out) hb); have n1_ := Aside0.mk (below_step (by repeat (first | (with_reducible first | exact HB.out | apply below_alloc | apply pw_below_drewN | apply below_drew1 | refine below_set ?_ GE297.out) | exact HB.out)) hb); clear BK297; clear HB; have BK297 := n0_; have HB := n1_; clear n0_ n1_; (try clear hb); (try clear hb2); (try clear hk); (try clear hi)))
        go_meet
        case rel => exact ⟨_, (!t299), (by first | rfl | (simp; done) | (simp [*]; done)), H', ⟨by first | omega | exact Nat.le_refl _⟩, ⟨by (with_reducible repeat (first | refine blk_drewN ?_ _ | refine blk_drew ?_ | refine blk_alloc ?_ _)); exact BK297.out⟩, ⟨by repeat (first | (with_reducible first | exact HB.out | apply below_alloc | apply pw_below_drewN | apply below_drew1 | refine below_set ?_ GE297.out) | exact HB.out)⟩⟩
    case rest =>
      clear HC7
      try clear c1
      try clear p2
      try clear c5
      try clear c6
      try clear c7
      try clear c10
      try clear c10b0
      try clear c10b1
      try clear hcz11_0 hcz11_1 hcz11_10 hcz11_11 hcz11_12 hcz11_13 hcz11_14 hcz11_2 hcz11_3 hcz11_4 hcz11_5 hcz11_6 hcz11_7 hcz11_8 hcz11_9 hfz11_0 hfz11_1 hfz11_10 hfz11_11 hfz11_12 hfz11_13 hfz11_14 hfz11_2 hfz11_3 hfz11_4 hfz11_5 hfz11_6 hfz11_7 hfz11_8 hfz11_9
      try clear hcz13_0 hcz13_1 hcz13_10 hcz13_11 hcz13_12 hcz13_13 hcz13_14 hcz13_2 hcz13_3 hcz13_4 hcz13_5 hcz13_6 hcz13_7 hcz13_8 hcz13_9 hfz13_0 hfz13_1 hfz13_10 hfz13_11 hfz13_12 hfz13_13 hfz13_14 hfz13_2 hfz13_3 hfz13_4 hfz13_5 hfz13_6 hfz13_7 hfz13_8 hfz13_9
      obtain ⟨kq, x23_6, rfl, HA, HJ6, BK297, HB⟩ := hcut
      cases kq with
      | zero => exact absurd HA.out (by simp [typecaselaw18_SpanGrows.j0])
      | succ kj6 =>
        have H := HA.out
        clear HA
        simp only [typecaselaw18_SpanGrows.j0] at H
        by_cases c15 : x23_6 = true
        · subst c15
          have H1 : (some true) = some r := by rw [if_pos rfl] at H; exact H
          clear H
          have H := H1
          clear H1
          obtain rfl := Option.some.inj H
          go_wp2
          go_ret
          exact ⟨by first | rfl | (simp [errW_none, errW_some] <;> rfl) | (simp [*, errW_none, errW_some] <;> rfl), by repeat (first | (with_reducible first | exact HB.out | apply below_alloc | apply pw_below_drewN | apply below_drew1 | refine below_set ?_ GE297.out) | exact HB.out)⟩
        · replace c15 := Bool.eq_false_iff.mpr c15
          subst c15
          have H1 : ((span_Next.f kj6 a0_0 a0_1 a0_2 a0_3 a0_4 a0_5 a0_6 a0_7 a0_8 a0_9 a0_10 l0_11 a0_12 a0_13 a0_14 a1).bind fun bt300 => (if bt300.2 = true then ((span_Reaches.f kj6 a0_0 a0_1 a0_2 a0_3 a0_4 a0_5 a0_6 a0_7 a0_8 a0_9 a0_10 l0_11 a0_12 a0_13 a0_14 bt300.1 a2).bind fun t302 => (typecaselaw18_SpanGrows.j1 kj6 a1 a2 a3 (!t302) a0_0 a0_1 a0_2 a0_3 a0_4 a0_5 a0_6 a0_7 a0_8 a0_9 a0_10 l0_11 a0_12 a0_13 a0_14)) else (typecaselaw18_SpanGrows.j1 kj6 a1 a2 a3 false a0_0 a0_1 a0_2 a0_3 a0_4 a0_5 a0_6 a0_7 a0_8 a0_9 a0_10 l0_11 a0_12 a0_13 a0_14))) = some r := by rw [if_neg (show ¬ (false = true) by decide)] at H; exact H
          clear H
          have H := H1
          clear H1
          replace H := Option.bind_eq_some_iff.mp H
          obtain ⟨⟨t300, t301⟩, A160, H⟩ := H
          replace H : (if t301 = true then ((span_Reaches.f kj6 a0_0 a0_1 a0_2 a0_3 a0_4 a0_5 a0_6 a0_7 a0_8 a0_9 a0_10 l0_11 a0_12 a0_13 a0_14 t300 a2).bind fun t302 => (typecaselaw18_SpanGrows.j1 kj6 a1 a2 a3 (!t302) a0_0 a0_1 a0_2 a0_3 a0_4 a0_5 a0_6 a0_7 a0_8 a0_9 a0_10 l0_11 a0_12 a0_13 a0_14)) else (typecaselaw18_SpanGrows.j1 kj6 a1 a2 a3 false a0_0 a0_1 a0_2 a0_3 a0_4 a0_5 a0_6 a0_7 a0_8 a0_9 a0_10 l0_11 a0_12 a0_13 a0_14)) = some r := H
          have A16 := Aside0.mk A160
          clear A160
          have HC17 := Aside0.mk H
          clear H
          have hcz18_0 : wc.cell? ⟨gb297, 0, none⟩ = some (.int .i64 a0_0) := (blk_cell BK297.out 0).trans rfl
          have hcz18_1 : wc.cell? ⟨gb297, 1, none⟩ = some (.int .i64 a0_1) := (blk_cell BK297.out 1).trans rfl
          have hcz18_2 : wc.cell? ⟨gb297, 2, none⟩ = some (.int .i64 a0_2) := (blk_cell BK297.out 2).trans rfl
          have hcz18_3 : wc.cell? ⟨gb297, 3, none⟩ = some (.string a0_3) := (blk_cell BK297.out 3).trans rfl
          have hcz18_4 : wc.cell? ⟨gb297, 4, none⟩ = some (.int .i64 a0_4) := (blk_cell BK297.out 4).trans rfl
          have hcz18_5 : wc.cell? ⟨gb297, 5, none⟩ = some (.int .i64 a0_5) := (blk_cell BK297.out 5).trans rfl
          have hcz18_6 : wc.cell? ⟨gb297, 6, none⟩ = some (.int .i64 a0_6) := (blk_cell BK297.out 6).trans rfl
          have hcz18_7 : wc.cell? ⟨gb297, 7, none⟩ = some (.int .i64 a0_7) := (blk_cell BK297.out 7).trans rfl
          have hcz18_8 : wc.cell? ⟨gb297, 8, none⟩ = some (.int .i32 a0_8) := (blk_cell BK297.out 8).trans rfl
          have hcz18_9 : wc.cell? ⟨gb297, 9, none⟩ = some (.string a0_9) := (blk_cell BK297.out 9).trans rfl
          have hcz18_10 : wc.cell? ⟨gb297, 10, none⟩ = some (.int .i64 a0_10) := (blk_cell BK297.out 10).trans rfl
          have hcz18_11 : wc.cell? ⟨gb297, 11, none⟩ = some (.slice A0_11 l0_11.length c0_11) := (blk_cell BK297.out 11).trans rfl
          have hcz18_12 : wc.cell? ⟨gb297, 12, none⟩ = some (.int .u32 a0_12) := (blk_cell BK297.out 12).trans rfl
          have hcz18_13 : wc.cell? ⟨gb297, 13, none⟩ = some (.bool a0_13) := (blk_cell BK297.out 13).trans rfl
          have hcz18_14 : wc.cell? ⟨gb297, 14, none⟩ = some (.bool a0_14) := (blk_cell BK297.out 14).trans rfl
          have hfz18_0 := blk_frozen BK297.out 0
          have hfz18_1 := blk_frozen BK297.out 1
          have hfz18_2 := blk_frozen BK297.out 2
          have hfz18_3 := blk_frozen BK297.out 3
          have hfz18_4 := blk_frozen BK297.out 4
          have hfz18_5 := blk_frozen BK297.out 5
          have hfz18_6 := blk_frozen BK297.out 6
          have hfz18_7 := blk_frozen BK297.out 7
          have hfz18_8 := blk_frozen BK297.out 8
          have hfz18_9 := blk_frozen BK297.out 9
          have hfz18_10 := blk_frozen BK297.out 10
          have hfz18_11 := blk_frozen BK297.out 11
          have hfz18_12 := blk_frozen BK297.out 12
          have hfz18_13 := blk_frozen BK297.out 13
          have hfz18_14 := blk_frozen BK297.out 14
          go_upto_region 6 with (first | ((with_reducible refine gate_callee (f := 10) rfl ?_); refine goesL_ (some 27) rfl rfl Try.func10 (by kernel_rfl) rfl #[.agg #[.int .i64 a0_0, .int .i64 a0_1, .int .i64 a0_2, .string a0_3, .int .i64 a0_4, .int .i64 a0_5, .int .i64 a0_6, .int .i64 a0_7, .int .i32 a0_8, .string a0_9, .int .i64 a0_10, .slice A0_11 l0_11.length c0_11, .int .u32 a0_12, .bool a0_13, .bool a0_14], .int .i64 a1] rfl (by (try simp only [List.map_toArray, List.map_cons, List.map_nil]); first | done | rfl | (simp only [List.length_drop, List.length_take]; rfl)) ?_; (with_reducible refine (span_Next.calls kj6 a0_0 a0_1 a0_2 a0_3 a0_4 a0_5 a0_6 a0_7 a0_8 a0_9 a0_10 _ _ l0_11 a0_12 a0_13 a0_14 a1 t300 t301 _ ?side1 ?side2 A16.out).mono ?_); (case side1 => repeat (first | exact (Kd.C_below HR0_11.out HB.out) | (with_reducible refine Kd.C_alloc ?_ _) | (with_reducible refine Kd.C_drewN ?_ _) | (with_reducible refine Kd.C_drew ?_))); (case side2 => exact HC0_11.out); rintro e w19 ⟨rfl, hb⟩; refine ⟨_, rfl, ?_⟩; have n0_ := Aside0.mk (blk_below (g := gb297) (o := .cells #[.int .i64 a0_0, .int .i64 a0_1, .int .i64 a0_2, .string a0_3, .int .i64 a0_4, .int .i64 a0_5, .int .i64 a0_6, .int .i64 a0_7, .int .i32 a0_8, .string a0_9, .int .i64 a0_10, .slice A0_11 l0_11.length c0_11, .int .u32 a0_12, .bool a0_13, .bool a0_14] 27 (0, 0)) (by (with_reducible repeat (first | refine blk_drewN ?_ _ | refine blk_drew ?_ | refine blk_alloc ?_ _)); exact BK297.out) hb); have n1_ := Aside0.mk (below_step (by repeat (first | (with_reducible first | exact HB.out | apply below_alloc | apply pw_below_drewN | apply below_drew1 | refine below_set ?_ GE297.out) | exact HB.out)) hb); clear BK297; clear HB; have BK297 := n0_; have HB := n1_; clear n0_ n1_; (try clear hb); (try clear hb2); (try clear hk); (try clear hi)))
          (try simp only [Act.put, List.setIfInBounds_toArray, List.set_cons_zero, List.set_cons_succ])
          go_cut [37] (fun v37 wc => ∃ (kq : Nat) (x37_16 : Bool), v37 = .bool x37_16 ∧ Aside0 (typecaselaw18_SpanGrows.j1 kq a1 a2 a3 x37_16 a0_0 a0_1 a0_2 a0_3 a0_4 a0_5 a0_6 a0_7 a0_8 a0_9 a0_10 l0_11 a0_12 a0_13 a0_14 = some r) ∧ Aside0 (kq ≤ kj6) ∧ Aside0 (wc.heap[gb297]? = some (.cells #[.int .i64 a0_0, .int .i64 a0_1, .int .i64 a0_2, .string a0_3, .int .i64 a0_4, .int .i64 a0_5, .int .i64 a0_6, .int .i64 a0_7, .int .i32 a0_8, .string a0_9, .int .i64 a0_10, (.slice A0_11 l0_11.length c0_11), .int .u32 a0_12, .bool a0_13, .bool a0_14] 27 (0, 0))) ∧ Aside0 (Below w.heap.size w wc))
          case first =>
            have H := HC17.out
            clear HC17
            by_cases c20 : t301 = true
            · subst c20
              have H1 : ((span_Reaches.f kj6 a0_0 a0_1 a0_2 a0_3 a0_4 a0_5 a0_6 a0_7 a0_8 a0_9 a0_10 l0_11 a0_12 a0_13 a0_14 t300 a2).bind fun t302 => (typecaselaw18_SpanGrows.j1 kj6 a1 a2 a3 (!t302) a0_0 a0_1 a0_2 a0_3 a0_4 a0_5 a0_6 a0_7 a0_8 a0_9 a0_10 l0_11 a0_12 a0_13 a0_14)) = some r := by rw [if_pos rfl] at H; exact H
              clear H
              have H := H1
              clear H1
              replace H := Option.bind_eq_some_iff.mp H
              obtain ⟨t302, A210, H⟩ := H
              replace H : (typecaselaw18_SpanGrows.j1 kj6 a1 a2 a3 (!t302) a0_0 a0_1 a0_2 a0_3 a0_4 a0_5 a0_6 a0_7 a0_8 a0_9 a0_10 l0_11 a0_12 a0_13 a0_14) = some r := H
              have A21 := Aside0.mk A210
              clear A210
              have H' := Aside0.mk H
              clear H
              have hcz22_0 : w19.cell? ⟨gb297, 0, none⟩ = some (.int .i64 a0_0) := (blk_cell BK297.out 0).trans rfl
              have hcz22_1 : w19.cell? ⟨gb297, 1, none⟩ = some (.int .i64 a0_1) := (blk_cell BK297.out 1).trans rfl
              have hcz22_2 : w19.cell? ⟨gb297, 2, none⟩ = some (.int .i64 a0_2) := (blk_cell BK297.out 2).trans rfl
              have hcz22_3 : w19.cell? ⟨gb297, 3, none⟩ = some (.string a0_3) := (blk_cell BK297.out 3).trans rfl
              have hcz22_4 : w19.cell? ⟨gb297, 4, none⟩ = some (.int .i64 a0_4) := (blk_cell BK297.out 4).trans rfl
              have hcz22_5 : w19.cell? ⟨gb297, 5, none⟩ = some (.int .i64 a0_5) := (blk_cell BK297.out 5).trans rfl
              have hcz22_6 : w19.cell? ⟨gb297, 6, none⟩ = some (.int .i64 a0_6) := (blk_cell BK297.out 6).trans rfl
              have hcz22_7 : w19.cell? ⟨gb297, 7, none⟩ = some (.int .i64 a0_7) := (blk_cell BK297.out 7).trans rfl
              have hcz22_8 : w19.cell? ⟨gb297, 8, none⟩ = some (.int .i32 a0_8) := (blk_cell BK297.out 8).trans rfl
              have hcz22_9 : w19.cell? ⟨gb297, 9, none⟩ = some (.string a0_9) := (blk_cell BK297.out 9).trans rfl
              have hcz22_10 : w19.cell? ⟨gb297, 10, none⟩ = some (.int .i64 a0_10) := (blk_cell BK297.out 10).trans rfl
              have hcz22_11 : w19.cell? ⟨gb297, 11, none⟩ = some (.slice A0_11 l0_11.length c0_11) := (blk_cell BK297.out 11).trans rfl
              have hcz22_12 : w19.cell? ⟨gb297, 12, none⟩ = some (.int .u32 a0_12) := (blk_cell BK297.out 12).trans rfl
              have hcz22_13 : w19.cell? ⟨gb297, 13, none⟩ = some (.bool a0_13) := (blk_cell BK297.out 13).trans rfl
              have hcz22_14 : w19.cell? ⟨gb297, 14, none⟩ = some (.bool a0_14) := (blk_cell BK297.out 14).trans rfl
              have hfz22_0 := blk_frozen BK297.out 0
              have hfz22_1 := blk_frozen BK297.out 1
              have hfz22_2 := blk_frozen BK297.out 2
              have hfz22_3 := blk_frozen BK297.out 3
              have hfz22_4 := blk_frozen BK297.out 4
              have hfz22_5 := blk_frozen BK297.out 5
              have hfz22_6 := blk_frozen BK297.out 6
              have hfz22_7 := blk_frozen BK297.out 7
              have hfz22_8 := blk_frozen BK297.out 8
              have hfz22_9 := blk_frozen BK297.out 9
              have hfz22_10 := blk_frozen BK297.out 10
              have hfz22_11 := blk_frozen BK297.out 11
              have hfz22_12 := blk_frozen BK297.out 12
              have hfz22_13 := blk_frozen BK297.out 13
              have hfz22_14 := blk_frozen BK297.out 14
              go_wp2_with (first | (go_at_call 8; (with_reducible refine (span_Reaches.calls kj6 a0_0 a0_1 a0_2 a0_3 a0_4 a0_5 a0_6 a0_7 a0_8 a0_9 a0_10 _ _ l0_11 a0_12 a0_13 a0_14 t300 a2 t302 _ ?side1 ?side2 A21.out).mono ?_); (case side1 => repeat (first | exact (Kd.C_below HR0_11.out HB.out) | (with_reducible refine Kd.C_alloc ?_ _) | (with_reducible refine Kd.C_drewN ?_ _) | (with_reducible refine Kd.C_drew ?_))); (case side2 => exact HC0_11.out); rintro e w23 ⟨rfl, hb⟩; have n0_ := Aside0.mk (blk_below (g := gb297) (o := .cells #[.int .i64 a0_0, .int .i64 a0_1, .int .i64 a0_2, .string a0_3, .int .i64 a0_4, .int .i64 a0_5, .int .i64 a0_6, .int .i64 a0_7, .int .i32 a0_8, .string a0_9, .int .i64 a0_10, .slice A0_11 l0_11.length c0_11, .int .u32 a0_12, .bool a0_13, .bool a0_14] 27 (0, 0)) (by (with_reducible repeat (first | refine blk_drewN ?_ _ | refine blk_drew ?_ | refine blk_alloc ?_ _)); exact BK297.out) hb); have n1_ := Aside0.mk (below_step (by repeat (first | (with_reducible first | exact HB.out | apply below_alloc | apply pw_below_drewN | apply below_drew1 | refine below_set ?_ GE297.out) | exact HB.out)) hb); clear BK297; clear HB; have BK297 := n0_; have HB := n1_; clear n0_ n1_; (try clear hb); (try clear hb2); (try clear hk); (try clear hi)))
              go_meet
              case rel => exact ⟨_, (!t302), (by first | rfl | (simp; done) | (simp [*]; done)), H', ⟨by have := HJ6.out; first | omega | exact Nat.le_refl _⟩, ⟨by (with_reducible repeat (first | refine blk_drewN ?_ _ | refine blk_drew ?_ | refine blk_alloc ?_ _)); exact BK297.out⟩, ⟨by repeat (first | (with_reducible first | exact HB.out | apply below_alloc | apply pw_below_drewN | apply below_drew1 | refine below_set ?_ GE297.out) | exact HB.out)⟩⟩
            · replace c20 := Bool.eq_false_iff.mpr c20
              subst c20
              have H1 : (typecaselaw18_SpanGrows.j1 kj6 a1 a2 a3 false a0_0 a0_1 a0_2 a0_3 a0_4 a0_5 a0_6 a0_7 a0_8 a0_9 a0_10 l0_11 a0_12 a0_13 a0_14) = some r := by rw [if_neg (show ¬ (false = true) by decide)] at H; exact H
              clear H
              have H := H1
              clear H1
              have H' := Aside0.mk H
              clear H
              go_wp2
              go_meet
              case rel => exact ⟨_, (false), (by first | rfl | (simp; done) | (simp [*]; done)), H', ⟨by have := HJ6.out; first | omega | exact Nat.le_refl _⟩, ⟨by (with_reducible repeat (first | refine blk_drewN ?_ _ | refine blk_drew ?_ | refine blk_alloc ?_ _)); exact BK297.out⟩, ⟨by repeat (first | (with_reducible first | exact HB.out | apply below_alloc | apply pw_below_drewN | apply below_drew1 | refine below_set ?_ GE297.out) | exact HB.out)⟩⟩
          case rest =>
            clear HC17
            try clear c1
            try clear c2
            try clear p2
            try clear c5
            try clear c6
            try clear c7
            try clear c10
            try clear c10b0
            try clear c10b1
            try clear c15
            try clear c20
            try clear hcz11_0 hcz11_1 hcz11_10 hcz11_11 hcz11_12 hcz11_13 hcz11_14 hcz11_2 hcz11_3 hcz11_4 hcz11_5 hcz11_6 hcz11_7 hcz11_8 hcz11_9 hfz11_0 hfz11_1 hfz11_10 hfz11_11 hfz11_12 hfz11_13 hfz11_14 hfz11_2 hfz11_3 hfz11_4 hfz11_5 hfz11_6 hfz11_7 hfz11_8 hfz11_9
            try clear hcz13_0 hcz13_1 hcz13_10 hcz13_11 hcz13_12 hcz13_13 hcz13_14 hcz13_2 hcz13_3 hcz13_4 hcz13_5 hcz13_6 hcz13_7 hcz13_8 hcz13_9 hfz13_0 hfz13_1 hfz13_10 hfz13_11 hfz13_12 hfz13_13 hfz13_14 hfz13_2 hfz13_3 hfz13_4 hfz13_5 hfz13_6 hfz13_7 hfz13_8 hfz13_9
            try clear hcz18_0 hcz18_1 hcz18_10 hcz18_11 hcz18_12 hcz18_13 hcz18_14 hcz18_2 hcz18_3 hcz18_4 hcz18_5 hcz18_6 hcz18_7 hcz18_8 hcz18_9 hfz18_0 hfz18_1 hfz18_10 hfz18_11 hfz18_12 hfz18_13 hfz18_14 hfz18_2 hfz18_3 hfz18_4 hfz18_5 hfz18_6 hfz18_7 hfz18_8 hfz18_9
            try clear hcz22_0 hcz22_1 hcz22_10 hcz22_11 hcz22_12 hcz22_13 hcz22_14 hcz22_2 hcz22_3 hcz22_4 hcz22_5 hcz22_6 hcz22_7 hcz22_8 hcz22_9 hfz22_0 hfz22_1 hfz22_10 hfz22_11 hfz22_12 hfz22_13 hfz22_14 hfz22_2 hfz22_3 hfz22_4 hfz22_5 hfz22_6 hfz22_7 hfz22_8 hfz22_9
            try clear p2
            obtain ⟨kq, x37_16, rfl, HA, HJ16, BK297, HB⟩ := hcut
            cases kq with
            | zero => exact absurd HA.out (by simp [typecaselaw18_SpanGrows.j1])
            | succ kj16 =>
              have H := HA.out
              clear HA
              simp only [typecaselaw18_SpanGrows.j1] at H
              by_cases c24 : x37_16 = true
              · subst c24
                have H1 : (some false) = some r := by rw [if_pos rfl] at H; exact H
                clear H
                have H := H1
                clear H1
                obtain rfl := Option.some.inj H
                go_wp2
                go_ret
                exact ⟨by first | rfl | (simp [errW_none, errW_some] <;> rfl) | (simp [*, errW_none, errW_some] <;> rfl), by repeat (first | (with_reducible first | exact HB.out | apply below_alloc | apply pw_below_drewN | apply below_drew1 | refine below_set ?_ GE297.out) | exact HB.out)⟩
              · replace c24 := Bool.eq_false_iff.mpr c24
                subst c24
                have H1 : (if (Int.tmod a3 2) = 0 then (if a2 ≥ 0 then (if a3 < 0 then (some true) else (if a3 > a2 then (some true) else (if a2 < 0 then (if a3 > 0 then (some true) else (if a3 < a2 then (some true) else ((span_Reaches.f kj16 a0_0 a0_1 a0_2 a0_3 a0_4 a0_5 a0_6 a0_7 a0_8 a0_9 a0_10 l0_11 a0_12 a0_13 a0_14 a1 a3).bind fun t303 => (some t303)))) else ((span_Reaches.f kj16 a0_0 a0_1 a0_2 a0_3 a0_4 a0_5 a0_6 a0_7 a0_8 a0_9 a0_10 l0_11 a0_12 a0_13 a0_14 a1 a3).bind fun t304 => (some t304))))) else (if a2 < 0 then (if a3 > 0 then (some true) else (if a3 < a2 then (some true) else ((span_Reaches.f kj16 a0_0 a0_1 a0_2 a0_3 a0_4 a0_5 a0_6 a0_7 a0_8 a0_9 a0_10 l0_11 a0_12 a0_13 a0_14 a1 a3).bind fun t305 => (some t305)))) else ((span_Reaches.f kj16 a0_0 a0_1 a0_2 a0_3 a0_4 a0_5 a0_6 a0_7 a0_8 a0_9 a0_10 l0_11 a0_12 a0_13 a0_14 a1 a3).bind fun t306 => (some t306)))) else (some true)) = some r := by rw [if_neg (show ¬ (false = true) by decide)] at H; exact H
                clear H
                have H := H1
                clear H1
                by_cases c25 : (Int.tmod a3 2) = 0
                · rw [if_pos c25] at H
                  have c25b0 : ((Int.tmod a3 2) == 0) = true := beq_iff_eq.mpr c25
                  have c25b1 : ((Int.tmod a3 2) != 0) = false := bne_eq_false_iff_eq.mpr c25
                  clear c25
                  by_cases c26 : a2 ≥ 0
                  · rw [if_pos c26] at H
                    have c26b0 : decide (0 ≤ a2) = true := decide_eq_true c26
                    clear c26
                    by_cases c27 : a3 < 0
                    · rw [if_pos c27] at H
                      have c27b0 : decide (a3 < 0) = true := decide_eq_true c27
                      clear c27
                      obtain rfl := Option.some.inj H
                      go_wp2
                      go_ret
                      exact ⟨by first | rfl | (simp [errW_none, errW_some] <;> rfl) | (simp [*, errW_none, errW_some] <;> rfl), by repeat (first | (with_reducible first | exact HB.out | apply below_alloc | apply pw_below_drewN | apply below_drew1 | refine below_set ?_ GE297.out) | exact HB.out)⟩
                    · rw [if_neg c27] at H
                      have c27b0 : decide (a3 < 0) = false := decide_eq_false c27
                      clear c27
                      by_cases c28 : a3 > a2
                      · rw [if_pos c28] at H
                        have c28b0 : decide (a2 < a3) = true := decide_eq_true c28
                        clear c28
                        obtain rfl := Option.some.inj H
                        go_wp2
                        go_ret
                        exact ⟨by first | rfl | (simp [errW_none, errW_some] <;> rfl) | (simp [*, errW_none, errW_some] <;> rfl), by repeat (first | (with_reducible first | exact HB.out | apply below_alloc | apply pw_below_drewN | apply below_drew1 | refine below_set ?_ GE297.out) | exact HB.out)⟩
                      · rw [if_neg c28] at H
                        have c28b0 : decide (a2 < a3) = false := decide_eq_false c28
                        clear c28
                        by_cases c29 : a2 < 0
                        · rw [if_pos c29] at H
                          have c29b0 : decide (a2 < 0) = true := decide_eq_true c29
                          clear c29
                          by_cases c30 : a3 > 0
                          · rw [if_pos c30] at H
                            have c30b0 : decide (0 < a3) = true := decide_eq_true c30
                            clear c30
                            obtain rfl := Option.some.inj H
                            go_wp2
                            go_ret
                            exact ⟨by first | rfl | (simp [errW_none, errW_some] <;> rfl) | (simp [*, errW_none, errW_some] <;> rfl), by repeat (first | (with_reducible first | exact HB.out | apply below_alloc | apply pw_below_drewN | apply below_drew1 | refine below_set ?_ GE297.out) | exact HB.out)⟩
                          · rw [if_neg c30] at H
                            have c30b0 : decide (0 < a3) = false := decide_eq_false c30
                            clear c30
                            by_cases c31 : a3 < a2
                            · rw [if_pos c31] at H
                              have c31b0 : decide (a3 < a2) = true := decide_eq_true c31
                              clear c31
                              obtain rfl := Option.some.inj H
                              go_wp2
                              go_ret
                              exact ⟨by first | rfl | (simp [errW_none, errW_some] <;> rfl) | (simp [*, errW_none, errW_some] <;> rfl), by repeat (first | (with_reducible first | exact HB.out | apply below_alloc | apply pw_below_drewN | apply below_drew1 | refine below_set ?_ GE297.out) | exact HB.out)⟩
                            · rw [if_neg c31] at H
                              have c31b0 : decide (a3 < a2) = false := decide_eq_false c31
                              clear c31
                              replace H := Option.bind_eq_some_iff.mp H
                              obtain ⟨t303, A320, H⟩ := H
                              replace H : (some t303) = some r := H
                              have A32 := Aside0.mk A320
                              clear A320
                              obtain rfl := Option.some.inj H
                              have hcz33_0 : wc.cell? ⟨gb297, 0, none⟩ = some (.int .i64 a0_0) := (blk_cell BK297.out 0).trans rfl
                              have hcz33_1 : wc.cell? ⟨gb297, 1, none⟩ = some (.int .i64 a0_1) := (blk_cell BK297.out 1).trans rfl
                              have hcz33_2 : wc.cell? ⟨gb297, 2, none⟩ = some (.int .i64 a0_2) := (blk_cell BK297.out 2).trans rfl
                              have hcz33_3 : wc.cell? ⟨gb297, 3, none⟩ = some (.string a0_3) := (blk_cell BK297.out 3).trans rfl
                              have hcz33_4 : wc.cell? ⟨gb297, 4, none⟩ = some (.int .i64 a0_4) := (blk_cell BK297.out 4).trans rfl
                              have hcz33_5 : wc.cell? ⟨gb297, 5, none⟩ = some (.int .i64 a0_5) := (blk_cell BK297.out 5).trans rfl
                              have hcz33_6 : wc.cell? ⟨gb297, 6, none⟩ = some (.int .i64 a0_6) := (blk_cell BK297.out 6).trans rfl
                              have hcz33_7 : wc.cell? ⟨gb297, 7, none⟩ = some (.int .i64 a0_7) := (blk_cell BK297.out 7).trans rfl
                              have hcz33_8 : wc.cell? ⟨gb297, 8, none⟩ = some (.int .i32 a0_8) := (blk_cell BK297.out 8).trans rfl
                              have hcz33_9 : wc.cell? ⟨gb297, 9, none⟩ = some (.string a0_9) := (blk_cell BK297.out 9).trans rfl
                              have hcz33_10 : wc.cell? ⟨gb297, 10, none⟩ = some (.int .i64 a0_10) := (blk_cell BK297.out 10).trans rfl
                              have hcz33_11 : wc.cell? ⟨gb297, 11, none⟩ = some (.slice A0_11 l0_11.length c0_11) := (blk_cell BK297.out 11).trans rfl
                              have hcz33_12 : wc.cell? ⟨gb297, 12, none⟩ = some (.int .u32 a0_12) := (blk_cell BK297.out 12).trans rfl
                              have hcz33_13 : wc.cell? ⟨gb297, 13, none⟩ = some (.bool a0_13) := (blk_cell BK297.out 13).trans rfl
                              have hcz33_14 : wc.cell? ⟨gb297, 14, none⟩ = some (.bool a0_14) := (blk_cell BK297.out 14).trans rfl
                              have hfz33_0 := blk_frozen BK297.out 0
                              have hfz33_1 := blk_frozen BK297.out 1
                              have hfz33_2 := blk_frozen BK297.out 2
                              have hfz33_3 := blk_frozen BK297.out 3
                              have hfz33_4 := blk_frozen BK297.out 4
                              have hfz33_5 := blk_frozen BK297.out 5
                              have hfz33_6 := blk_frozen BK297.out 6
                              have hfz33_7 := blk_frozen BK297.out 7
                              have hfz33_8 := blk_frozen BK297.out 8
                              have hfz33_9 := blk_frozen BK297.out 9
                              have hfz33_10 := blk_frozen BK297.out 10
                              have hfz33_11 := blk_frozen BK297.out 11
                              have hfz33_12 := blk_frozen BK297.out 12
                              have hfz33_13 := blk_frozen BK297.out 13
                              have hfz33_14 := blk_frozen BK297.out 14
                              go_wp2_with (first | ((with_reducible refine gate_callee (f := 8) rfl ?_); refine goesL_ (some 70) rfl rfl Try.func8 (by kernel_rfl) rfl #[.agg #[.int .i64 a0_0, .int .i64 a0_1, .int .i64 a0_2, .string a0_3, .int .i64 a0_4, .int .i64 a0_5, .int .i64 a0_6, .int .i64 a0_7, .int .i32 a0_8, .string a0_9, .int .i64 a0_10, .slice A0_11 l0_11.length c0_11, .int .u32 a0_12, .bool a0_13, .bool a0_14], .int .i64 a1, .int .i32 a3] rfl (by (try simp only [List.map_toArray, List.map_cons, List.map_nil]); first | done | rfl | (simp only [List.length_drop, List.length_take]; rfl)) ?_; (with_reducible refine (span_Reaches.calls kj16 a0_0 a0_1 a0_2 a0_3 a0_4 a0_5 a0_6 a0_7 a0_8 a0_9 a0_10 _ _ l0_11 a0_12 a0_13 a0_14 a1 a3 t303 _ ?side1 ?side2 A32.out).mono ?_); (case side1 => repeat (first | exact (Kd.C_below HR0_11.out HB.out) | (with_reducible refine Kd.C_alloc ?_ _) | (with_reducible refine Kd.C_drewN ?_ _) | (with_reducible refine Kd.C_drew ?_))); (case side2 => exact HC0_11.out); rintro e w34 ⟨rfl, hb⟩; refine ⟨_, rfl, ?_⟩; have n0_ := Aside0.mk (blk_below (g := gb297) (o := .cells #[.int .i64 a0_0, .int .i64 a0_1, .int .i64 a0_2, .string a0_3, .int .i64 a0_4, .int .i64 a0_5, .int .i64 a0_6, .int .i64 a0_7, .int .i32 a0_8, .string a0_9, .int .i64 a0_10, .slice A0_11 l0_11.length c0_11, .int .u32 a0_12, .bool a0_13, .bool a0_14] 27 (0, 0)) (by (with_reducible repeat (first | refine blk_drewN ?_ _ | refine blk_drew ?_ | refine blk_alloc ?_ _)); exact BK297.out) hb); have n1_ := Aside0.mk (below_step (by repeat (first | (with_reducible first | exact HB.out | apply below_alloc | apply pw_below_drewN | apply below_drew1 | refine below_set ?_ GE297.out) | exact HB.out)) hb); clear BK297; clear HB; have BK297 := n0_; have HB := n1_; clear n0_ n1_; (try clear hb); (try clear hb2); (try clear hk); (try clear hi)))
                              go_ret
                              exact ⟨by first | rfl | (simp [errW_none, errW_some] <;> rfl) | (simp [*, errW_none, errW_some] <;> rfl), by repeat (first | (with_reducible first | exact HB.out | apply below_alloc | apply pw_below_drewN | apply below_drew1 | refine below_set ?_ GE297.out) | exact HB.out)⟩
                        · rw [if_neg c29] at H
                          have c29b0 : decide (a2 < 0) = false := decide_eq_false c29
                          clear c29
                          replace H := Option.bind_eq_some_iff.mp H
                          obtain ⟨t304, A350, H⟩ := H
                          replace H : (some t304) = some r := H
                          have A35 := Aside0.mk A350
                          clear A350
                          obtain rfl := Option.some.inj H
                          have hcz36_0 : wc.cell? ⟨gb297, 0, none⟩ = some (.int .i64 a0_0) := (blk_cell BK297.out 0).trans rfl
                          have hcz36_1 : wc.cell? ⟨gb297, 1, none⟩ = some (.int .i64 a0_1) := (blk_cell BK297.out 1).trans rfl
                          have hcz36_2 : wc.cell? ⟨gb297, 2, none⟩ = some (.int .i64 a0_2) := (blk_cell BK297.out 2).trans rfl
                          have hcz36_3 : wc.cell? ⟨gb297, 3, none⟩ = some (.string a0_3) := (blk_cell BK297.out 3).trans rfl
                          have hcz36_4 : wc.cell? ⟨gb297, 4, none⟩ = some (.int .i64 a0_4) := (blk_cell BK297.out 4).trans rfl
                          have hcz36_5 : wc.cell? ⟨gb297, 5, none⟩ = some (.int .i64 a0_5) := (blk_cell BK297.out 5).trans rfl
                          have hcz36_6 : wc.cell? ⟨gb297, 6, none⟩ = some (.int .i64 a0_6) := (blk_cell BK297.out 6).trans rfl
                          have hcz36_7 : wc.cell? ⟨gb297, 7, none⟩ = some (.int .i64 a0_7) := (blk_cell BK297.out 7).trans rfl
                          have hcz36_8 : wc.cell? ⟨gb297, 8, none⟩ = some (.int .i32 a0_8) := (blk_cell BK297.out 8).trans rfl
                          have hcz36_9 : wc.cell? ⟨gb297, 9, none⟩ = some (.string a0_9) := (blk_cell BK297.out 9).trans rfl
                          have hcz36_10 : wc.cell? ⟨gb297, 10, none⟩ = some (.int .i64 a0_10) := (blk_cell BK297.out 10).trans rfl
                          have hcz36_11 : wc.cell? ⟨gb297, 11, none⟩ = some (.slice A0_11 l0_11.length c0_11) := (blk_cell BK297.out 11).trans rfl
                          have hcz36_12 : wc.cell? ⟨gb297, 12, none⟩ = some (.int .u32 a0_12) := (blk_cell BK297.out 12).trans rfl
                          have hcz36_13 : wc.cell? ⟨gb297, 13, none⟩ = some (.bool a0_13) := (blk_cell BK297.out 13).trans rfl
                          have hcz36_14 : wc.cell? ⟨gb297, 14, none⟩ = some (.bool a0_14) := (blk_cell BK297.out 14).trans rfl
                          have hfz36_0 := blk_frozen BK297.out 0
                          have hfz36_1 := blk_frozen BK297.out 1
                          have hfz36_2 := blk_frozen BK297.out 2
                          have hfz36_3 := blk_frozen BK297.out 3
                          have hfz36_4 := blk_frozen BK297.out 4
                          have hfz36_5 := blk_frozen BK297.out 5
                          have hfz36_6 := blk_frozen BK297.out 6
                          have hfz36_7 := blk_frozen BK297.out 7
                          have hfz36_8 := blk_frozen BK297.out 8
                          have hfz36_9 := blk_frozen BK297.out 9
                          have hfz36_10 := blk_frozen BK297.out 10
                          have hfz36_11 := blk_frozen BK297.out 11
                          have hfz36_12 := blk_frozen BK297.out 12
                          have hfz36_13 := blk_frozen BK297.out 13
                          have hfz36_14 := blk_frozen BK297.out 14
                          go_wp2_with (first | ((with_reducible refine gate_callee (f := 8) rfl ?_); refine goesL_ (some 70) rfl rfl Try.func8 (by kernel_rfl) rfl #[.agg #[.int .i64 a0_0, .int .i64 a0_1, .int .i64 a0_2, .string a0_3, .int .i64 a0_4, .int .i64 a0_5, .int .i64 a0_6, .int .i64 a0_7, .int .i32 a0_8, .string a0_9, .int .i64 a0_10, .slice A0_11 l0_11.length c0_11, .int .u32 a0_12, .bool a0_13, .bool a0_14], .int .i64 a1, .int .i32 a3] rfl (by (try simp only [List.map_toArray, List.map_cons, List.map_nil]); first | done | rfl | (simp only [List.length_drop, List.length_take]; rfl)) ?_; (with_reducible refine (span_Reaches.calls kj16 a0_0 a0_1 a0_2 a0_3 a0_4 a0_5 a0_6 a0_7 a0_8 a0_9 a0_10 _ _ l0_11 a0_12 a0_13 a0_14 a1 a3 t304 _ ?side1 ?side2 A35.out).mono ?_); (case side1 => repeat (first | exact (Kd.C_below HR0_11.out HB.out) | (with_reducible refine Kd.C_alloc ?_ _) | (with_reducible refine Kd.C_drewN ?_ _) | (with_reducible refine Kd.C_drew ?_))); (case side2 => exact HC0_11.out); rintro e w37 ⟨rfl, hb⟩; refine ⟨_, rfl, ?_⟩; have n0_ := Aside0.mk (blk_below (g := gb297) (o := .cells #[.int .i64 a0_0, .int .i64 a0_1, .int .i64 a0_2, .string a0_3, .int .i64 a0_4, .int .i64 a0_5, .int .i64 a0_6, .int .i64 a0_7, .int .i32 a0_8, .string a0_9, .int .i64 a0_10, .slice A0_11 l0_11.length c0_11, .int .u32 a0_12, .bool a0_13, .bool a0_14] 27 (0, 0)) (by (with_reducible repeat (first | refine blk_drewN ?_ _ | refine blk_drew ?_ | refine blk_alloc ?_ _)); exact BK297.out) hb); have n1_ := Aside0.mk (below_step (by repeat (first | (with_reducible first | exact HB.out | apply below_alloc | apply pw_below_drewN | apply below_drew1 | refine below_set ?_ GE297.out) | exact HB.out)) hb); clear BK297; clear HB; have BK297 := n0_; have HB := n1_; clear n0_ n1_; (try clear hb); (try clear hb2); (try clear hk); (try clear hi)))
                          go_ret
                          exact ⟨by first | rfl | (simp [errW_none, errW_some] <;> rfl) | (simp [*, errW_none, errW_some] <;> rfl), by repeat (first | (with_reducible first | exact HB.out | apply below_alloc | apply pw_below_drewN | apply below_drew1 | refine below_set ?_ GE297.out) | exact HB.out)⟩
                  · rw [if_neg c26] at H
                    have c26b0 : decide (0 ≤ a2) = false := decide_eq_false c26
                    clear c26
                    by_cases c38 : a2 < 0
                    · rw [if_pos c38] at H
                      have c38b0 : decide (a2 < 0) = true := decide_eq_true c38
                      clear c38
                      by_cases c39 : a3 > 0
                      · rw [if_pos c39] at H
                        have c39b0 : decide (0 < a3) = true := decide_eq_true c39
                        clear c39
                        obtain rfl := Option.some.inj H
                        go_wp2
                        go_ret
                        exact ⟨by first | rfl | (simp [errW_none, errW_some] <;> rfl) | (simp [*, errW_none, errW_some] <;> rfl), by repeat (first | (with_reducible first | exact HB.out | apply below_alloc | apply pw_below_drewN | apply below_drew1 | refine below_set ?_ GE297.out) | exact HB.out)⟩
                      · rw [if_neg c39] at H
                        have c39b0 : decide (0 < a3) = false := decide_eq_false c39
                        clear c39
                        by_cases c40 : a3 < a2
                        · rw [if_pos c40] at H
                          have c40b0 : decide (a3 < a2) = true := decide_eq_true c40
                          clear c40
                          obtain rfl := Option.some.inj H
                          go_wp2
                          go_ret
                          exact ⟨by first | rfl | (simp [errW_none, errW_some] <;> rfl) | (simp [*, errW_none, errW_some] <;> rfl), by repeat (first | (with_reducible first | exact HB.out | apply below_alloc | apply pw_below_drewN | apply below_drew1 | refine below_set ?_ GE297.out) | exact HB.out)⟩
                        · rw [if_neg c40] at H
                          have c40b0 : decide (a3 < a2) = false := decide_eq_false c40
                          clear c40
                          replace H := Option.bind_eq_some_iff.mp H
                          obtain ⟨t305, A410, H⟩ := H
                          replace H : (some t305) = some r := H
                          have A41 := Aside0.mk A410
                          clear A410
                          obtain rfl := Option.some.inj H
                          have hcz42_0 : wc.cell? ⟨gb297, 0, none⟩ = some (.int .i64 a0_0) := (blk_cell BK297.out 0).trans rfl
                          have hcz42_1 : wc.cell? ⟨gb297, 1, none⟩ = some (.int .i64 a0_1) := (blk_cell BK297.out 1).trans rfl
                          have hcz42_2 : wc.cell? ⟨gb297, 2, none⟩ = some (.int .i64 a0_2) := (blk_cell BK297.out 2).trans rfl
                          have hcz42_3 : wc.cell? ⟨gb297, 3, none⟩ = some (.string a0_3) := (blk_cell BK297.out 3).trans rfl
                          have hcz42_4 : wc.cell? ⟨gb297, 4, none⟩ = some (.int .i64 a0_4) := (blk_cell BK297.out 4).trans rfl
                          have hcz42_5 : wc.cell? ⟨gb297, 5, none⟩ = some (.int .i64 a0_5) := (blk_cell BK297.out 5).trans rfl
                          have hcz42_6 : wc.cell? ⟨gb297, 6, none⟩ = some (.int .i64 a0_6) := (blk_cell BK297.out 6).trans rfl
                          have hcz42_7 : wc.cell? ⟨gb297, 7, none⟩ = some (.int .i64 a0_7) := (blk_cell BK297.out 7).trans rfl
                          have hcz42_8 : wc.cell? ⟨gb297, 8, none⟩ = some (.int .i32 a0_8) := (blk_cell BK297.out 8).trans rfl
                          have hcz42_9 : wc.cell? ⟨gb297, 9, none⟩ = some (.string a0_9) := (blk_cell BK297.out 9).trans rfl
                          have hcz42_10 : wc.cell? ⟨gb297, 10, none⟩ = some (.int .i64 a0_10) := (blk_cell BK297.out 10).trans rfl
                          have hcz42_11 : wc.cell? ⟨gb297, 11, none⟩ = some (.slice A0_11 l0_11.length c0_11) := (blk_cell BK297.out 11).trans rfl
                          have hcz42_12 : wc.cell? ⟨gb297, 12, none⟩ = some (.int .u32 a0_12) := (blk_cell BK297.out 12).trans rfl
                          have hcz42_13 : wc.cell? ⟨gb297, 13, none⟩ = some (.bool a0_13) := (blk_cell BK297.out 13).trans rfl
                          have hcz42_14 : wc.cell? ⟨gb297, 14, none⟩ = some (.bool a0_14) := (blk_cell BK297.out 14).trans rfl
                          have hfz42_0 := blk_frozen BK297.out 0
                          have hfz42_1 := blk_frozen BK297.out 1
                          have hfz42_2 := blk_frozen BK297.out 2
                          have hfz42_3 := blk_frozen BK297.out 3
                          have hfz42_4 := blk_frozen BK297.out 4
                          have hfz42_5 := blk_frozen BK297.out 5
                          have hfz42_6 := blk_frozen BK297.out 6
                          have hfz42_7 := blk_frozen BK297.out 7
                          have hfz42_8 := blk_frozen BK297.out 8
                          have hfz42_9 := blk_frozen BK297.out 9
                          have hfz42_10 := blk_frozen BK297.out 10
                          have hfz42_11 := blk_frozen BK297.out 11
                          have hfz42_12 := blk_frozen BK297.out 12
                          have hfz42_13 := blk_frozen BK297.out 13
                          have hfz42_14 := blk_frozen BK297.out 14
                          go_wp2_with (first | ((with_reducible refine gate_callee (f := 8) rfl ?_); refine goesL_ (some 70) rfl rfl Try.func8 (by kernel_rfl) rfl #[.agg #[.int .i64 a0_0, .int .i64 a0_1, .int .i64 a0_2, .string a0_3, .int .i64 a0_4, .int .i64 a0_5, .int .i64 a0_6, .int .i64 a0_7, .int .i32 a0_8, .string a0_9, .int .i64 a0_10, .slice A0_11 l0_11.length c0_11, .int .u32 a0_12, .bool a0_13, .bool a0_14], .int .i64 a1, .int .i32 a3] rfl (by (try simp only [List.map_toArray, List.map_cons, List.map_nil]); first | done | rfl | (simp only [List.length_drop, List.length_take]; rfl)) ?_; (with_reducible refine (span_Reaches.calls kj16 a0_0 a0_1 a0_2 a0_3 a0_4 a0_5 a0_6 a0_7 a0_8 a0_9 a0_10 _ _ l0_11 a0_12 a0_13 a0_14 a1 a3 t305 _ ?side1 ?side2 A41.out).mono ?_); (case side1 => repeat (first | exact (Kd.C_below HR0_11.out HB.out) | (with_reducible refine Kd.C_alloc ?_ _) | (with_reducible refine Kd.C_drewN ?_ _) | (with_reducible refine Kd.C_drew ?_))); (case side2 => exact HC0_11.out); rintro e w43 ⟨rfl, hb⟩; refine ⟨_, rfl, ?_⟩; have n0_ := Aside0.mk (blk_below (g := gb297) (o := .cells #[.int .i64 a0_0, .int .i64 a0_1, .int .i64 a0_2, .string a0_3, .int .i64 a0_4, .int .i64 a0_5, .int .i64 a0_6, .int .i64 a0_7, .int .i32 a0_8, .string a0_9, .int .i64 a0_10, .slice A0_11 l0_11.length c0_11, .int .u32 a0_12, .bool a0_13, .bool a0_14] 27 (0, 0)) (by (with_reducible repeat (first | refine blk_drewN ?_ _ | refine blk_drew ?_ | refine blk_alloc ?_ _)); exact BK297.out) hb); have n1_ := Aside0.mk (below_step (by repeat (first | (with_reducible first | exact HB.out | apply below_alloc | apply pw_below_drewN | apply below_drew1 | refine below_set ?_ GE297.out) | exact HB.out)) hb); clear BK297; clear HB; have BK297 := n0_; have HB := n1_; clear n0_ n1_; (try clear hb); (try clear hb2); (try clear hk); (try clear hi)))
                          go_ret
                          exact ⟨by first | rfl | (simp [errW_none, errW_some] <;> rfl) | (simp [*, errW_none, errW_some] <;> rfl), by repeat (first | (with_reducible first | exact HB.out | apply below_alloc | apply pw_below_drewN | apply below_drew1 | refine below_set ?_ GE297.out) | exact HB.out)⟩
                    · rw [if_neg c38] at H
                      have c38b0 : decide (a2 < 0) = false := decide_eq_false c38
                      clear c38
                      replace H := Option.bind_eq_some_iff.mp H
                      obtain ⟨t306, A440, H⟩ := H
                      replace H : (some t306) = some r := H
                      have A44 := Aside0.mk A440
                      clear A440
                      obtain rfl := Option.some.inj H
                      have hcz45_0 : wc.cell? ⟨gb297, 0, none⟩ = some (.int .i64 a0_0) := (blk_cell BK297.out 0).trans rfl
                      have hcz45_1 : wc.cell? ⟨gb297, 1, none⟩ = some (.int .i64 a0_1) := (blk_cell BK297.out 1).trans rfl
                      have hcz45_2 : wc.cell? ⟨gb297, 2, none⟩ = some (.int .i64 a0_2) := (blk_cell BK297.out 2).trans rfl
                      have hcz45_3 : wc.cell? ⟨gb297, 3, none⟩ = some (.string a0_3) := (blk_cell BK297.out 3).trans rfl
                      have hcz45_4 : wc.cell? ⟨gb297, 4, none⟩ = some (.int .i64 a0_4) := (blk_cell BK297.out 4).trans rfl
                      have hcz45_5 : wc.cell? ⟨gb297, 5, none⟩ = some (.int .i64 a0_5) := (blk_cell BK297.out 5).trans rfl
                      have hcz45_6 : wc.cell? ⟨gb297, 6, none⟩ = some (.int .i64 a0_6) := (blk_cell BK297.out 6).trans rfl
                      have hcz45_7 : wc.cell? ⟨gb297, 7, none⟩ = some (.int .i64 a0_7) := (blk_cell BK297.out 7).trans rfl
                      have hcz45_8 : wc.cell? ⟨gb297, 8, none⟩ = some (.int .i32 a0_8) := (blk_cell BK297.out 8).trans rfl
                      have hcz45_9 : wc.cell? ⟨gb297, 9, none⟩ = some (.string a0_9) := (blk_cell BK297.out 9).trans rfl
                      have hcz45_10 : wc.cell? ⟨gb297, 10, none⟩ = some (.int .i64 a0_10) := (blk_cell BK297.out 10).trans rfl
                      have hcz45_11 : wc.cell? ⟨gb297, 11, none⟩ = some (.slice A0_11 l0_11.length c0_11) := (blk_cell BK297.out 11).trans rfl
                      have hcz45_12 : wc.cell? ⟨gb297, 12, none⟩ = some (.int .u32 a0_12) := (blk_cell BK297.out 12).trans rfl
                      have hcz45_13 : wc.cell? ⟨gb297, 13, none⟩ = some (.bool a0_13) := (blk_cell BK297.out 13).trans rfl
                      have hcz45_14 : wc.cell? ⟨gb297, 14, none⟩ = some (.bool a0_14) := (blk_cell BK297.out 14).trans rfl
                      have hfz45_0 := blk_frozen BK297.out 0
                      have hfz45_1 := blk_frozen BK297.out 1
                      have hfz45_2 := blk_frozen BK297.out 2
                      have hfz45_3 := blk_frozen BK297.out 3
                      have hfz45_4 := blk_frozen BK297.out 4
                      have hfz45_5 := blk_frozen BK297.out 5
                      have hfz45_6 := blk_frozen BK297.out 6
                      have hfz45_7 := blk_frozen BK297.out 7
                      have hfz45_8 := blk_frozen BK297.out 8
                      have hfz45_9 := blk_frozen BK297.out 9
                      have hfz45_10 := blk_frozen BK297.out 10
                      have hfz45_11 := blk_frozen BK297.out 11
                      have hfz45_12 := blk_frozen BK297.out 12
                      have hfz45_13 := blk_frozen BK297.out 13
                      have hfz45_14 := blk_frozen BK297.out 14
                      go_wp2_with (first | ((with_reducible refine gate_callee (f := 8) rfl ?_); refine goesL_ (some 70) rfl rfl Try.func8 (by kernel_rfl) rfl #[.agg #[.int .i64 a0_0, .int .i64 a0_1, .int .i64 a0_2, .string a0_3, .int .i64 a0_4, .int .i64 a0_5, .int .i64 a0_6, .int .i64 a0_7, .int .i32 a0_8, .string a0_9, .int .i64 a0_10, .slice A0_11 l0_11.length c0_11, .int .u32 a0_12, .bool a0_13, .bool a0_14], .int .i64 a1, .int .i32 a3] rfl (by (try simp only [List.map_toArray, List.map_cons, List.map_nil]); first | done | rfl | (simp only [List.length_drop, List.length_take]; rfl)) ?_; (with_reducible refine (span_Reaches.calls kj16 a0_0 a0_1 a0_2 a0_3 a0_4 a0_5 a0_6 a0_7 a0_8 a0_9 a0_10 _ _ l0_11 a0_12 a0_13 a0_14 a1 a3 t306 _ ?side1 ?side2 A44.out).mono ?_); (case side1 => repeat (first | exact (Kd.C_below HR0_11.out HB.out) | (with_reducible refine Kd.C_alloc ?_ _) | (with_reducible refine Kd.C_drewN ?_ _) | (with_reducible refine Kd.C_drew ?_))); (case side2 => exact HC0_11.out); rintro e w46 ⟨rfl, hb⟩; refine ⟨_, rfl, ?_⟩; have n0_ := Aside0.mk (blk_below (g := gb297) (o := .cells #[.int .i64 a0_0, .int .i64 a0_1, .int .i64 a0_2, .string a0_3, .int .i64 a0_4, .int .i64 a0_5, .int .i64 a0_6, .int .i64 a0_7, .int .i32 a0_8, .string a0_9, .int .i64 a0_10, .slice A0_11 l0_11.length c0_11, .int .u32 a0_12, .bool a0_13, .bool a0_14] 27 (0, 0)) (by (with_reducible repeat (first | refine blk_drewN ?_ _ | refine blk_drew ?_ | refine blk_alloc ?_ _)); exact BK297.out) hb); have n1_ := Aside0.mk (below_step (by repeat (first | (with_reducible first | exact HB.out | apply below_alloc | apply pw_below_drewN | apply below_drew1 | refine below_set ?_ GE297.out) | exact HB.out)) hb); clear BK297; clear HB; have BK297 := n0_; have HB := n1_; clear n0_ n1_; (try clear hb); (try clear hb2); (try clear hk); (try clear hi)))
                      go_ret
                      exact ⟨by first | rfl | (simp [errW_none, errW_some] <;> rfl) | (simp [*, errW_none, errW_some] <;> rfl), by repeat (first | (with_reducible first | exact HB.out | apply below_alloc | apply pw_below_drewN | apply below_drew1 | refine below_set ?_ GE297.out) | exact HB.out)⟩
                · rw [if_neg c25] at H
                  have c25b0 : ((Int.tmod a3 2) == 0) = false := beq_eq_false_iff_ne.mpr c25
                  have c25b1 : ((Int.tmod a3 2) != 0) = true := bne_iff_ne.mpr c25
                  obtain rfl := Option.some.inj H
                  go_wp2
                  go_ret
                  exact ⟨by first | rfl | (simp [errW_none, errW_some] <;> rfl) | (simp [*, errW_none, errW_some] <;> rfl), by repeat (first | (with_reducible first | exact HB.out | apply below_alloc | apply pw_below_drewN | apply below_drew1 | refine below_set ?_ GE297.out) | exact HB.out)⟩
  · replace c6 := Bool.eq_false_iff.mpr c6
    subst c6
    have H1 : (some false) = some r := by rw [if_neg (show ¬ (false = true) by decide)] at H; exact H
    clear H
    have H := H1
    clear H1
    obtain rfl := Option.some.inj H
    go_enter Try.func5, Try.ntmps5
    go_wp2_with (first | ((with_reducible refine gate_dst (N := 4) rfl ?_); refine box_event ?hg (N := 4) ?hd (cs := #[.int .i64 a0_0, .int .i64 a0_1, .int .i64 a0_2, .string a0_3, .int .i64 a0_4, .int .i64 a0_5, .int .i64 a0_6, .int .i64 a0_7, .int .i32 a0_8, .string a0_9, .int .i64 a0_10, .slice A0_11 l0_11.length c0_11, .int .u32 a0_12, .bool a0_13, .bool a0_14]) (t := 27) ?hr ?_; (case hd => rfl); (case hg => rfl); (case hr => first | (go_simp; done) | (go_simp; rfl)); intro gb297 hg w47 hbox hb; have n0_ := Aside0.mk (below_step (by repeat (first | (with_reducible first | exact HB.out | apply below_alloc | apply pw_below_drewN | apply below_drew1) | exact HB.out)) hb); have n1_ := Aside0.mk (hbox); have n2_ := Aside0.mk ((by rw [hg]; exact (below_size (by repeat (first | (with_reducible first | exact HB.out | apply below_alloc | apply pw_below_drewN | apply below_drew1) | exact HB.out))) : w.heap.size ≤ gb297)); have n3_ := Aside0.mk ((by rw [hg]; exact (below_size (by repeat (first | (with_reducible first | exact HB.out | apply below_alloc | apply pw_below_drewN | apply below_drew1) | exact HB.out))) : w.heap.size ≤ gb297)); clear HB; have HB := n0_; have BK297 := n1_; have GW297 := n2_; have GE297 := n3_; clear n0_ n1_ n2_ n3_; clear hb hbox hg) | ((with_reducible refine gate_callee (f := 7) rfl ?_); refine goesL_ (some 11) rfl rfl Try.func7 (by kernel_rfl) rfl #[] rfl (by (try simp only [List.map_toArray, List.map_cons, List.map_nil]); first | done | rfl | (simp only [List.length_drop, List.length_take]; rfl)) ?_; (with_reducible refine (typecaselaw18_awake.calls k  false _ A5.out).mono ?_); rintro e w48 ⟨rfl, hb⟩; refine ⟨_, rfl, ?_⟩; have n0_ := Aside0.mk (blk_below (g := gb297) (o := .cells #[.int .i64 a0_0, .int .i64 a0_1, .int .i64 a0_2, .string a0_3, .int .i64 a0_4, .int .i64 a0_5, .int .i64 a0_6, .int .i64 a0_7, .int .i32 a0_8, .string a0_9, .int .i64 a0_10, .slice A0_11 l0_11.length c0_11, .int .u32 a0_12, .bool a0_13, .bool a0_14] 27 (0, 0)) (by (with_reducible repeat (first | refine blk_drewN ?_ _ | refine blk_drew ?_ | refine blk_alloc ?_ _)); exact BK297.out) hb); have n1_ := Aside0.mk (below_step (by repeat (first | (with_reducible first | exact HB.out | apply below_alloc | apply pw_below_drewN | apply below_drew1 | refine below_set ?_ GE297.out) | exact HB.out)) hb); clear BK297; clear HB; have BK297 := n0_; have HB := n1_; clear n0_ n1_; (try clear hb); (try clear hb2); (try clear hk); (try clear hi)))
    go_ret
    exact ⟨by first | rfl | (simp [errW_none, errW_some] <;> rfl) | (simp [*, errW_none, errW_some] <;> rfl), by repeat (first | (with_reducible first | exact HB.out | apply below_alloc | apply pw_below_drewN | apply below_drew1 | refine below_set ?_ GE297.out) | exact HB.out)⟩

end Go.Proofs.Ytbpihhggeakhoaa.PAll
