-- Written by wip/tools/fprint.py: the kit's print.py, run with functions of this session's own put in. Not trusted: Lean checks it.
import Derived.Test.YtbpihhggeakhoaaPAllx0
import Derived.Test.YtbpihhggeakhoaaPAllx6
namespace Go.Proofs.Ytbpihhggeakhoaa.PAll
open Go.RowKit Go.Proofs.YtbpihhggeakhoaaW.PrintWords Go.Proofs.YtbpihhggeakhoaaW.PrintLast Go.Proofs.YtbpihhggeakhoaaW.PrintMore
attribute [local go_sem] max2_int min2_int max_two min_two max_three min_three max_four min_four   -- for this text's walks alone
set_option linter.unusedVariables false
set_option linter.unusedSimpArgs false

/-! ### typecaseref18_Reaches: function 9 -/
mutual
def typecaseref18_Reaches.l0 : Nat → Int → Int → List Int → Bool → Int → Int → Int → Int → ByteArray → Int → Int → Int → Int → Int → ByteArray → Int → List (S86) → Int → Bool → Bool → Option (Bool)
  | 0, _, _, _, _, _, _, _, _, _, _, _, _, _, _, _, _, _, _, _, _ => none
  | k + 1, x1, x2, x7, x8, x9, x263000, x263001, x263002, x263003, x263004, x263005, x263006, x263007, x263008, x263009, x263010, x263011, x263012, x263013, x263014 => if x9 < (x7.length : Int) then (if x8 = true then (typecaseref18_Reaches.l0 k x1 x2 x7 true (wrap64 (x9 + 1)) x263000 x263001 x263002 x263003 x263004 x263005 x263006 x263007 x263008 x263009 x263010 x263011 x263012 x263013 x263014) else (if 0 ≤ x9 then (typecaseref18_Reaches.l0 k x1 x2 x7 ((rd x7 x9) == x1) (wrap64 (x9 + 1)) x263000 x263001 x263002 x263003 x263004 x263005 x263006 x263007 x263008 x263009 x263010 x263011 x263012 x263013 x263014) else (none))) else (if x8 = true then (if x263000 < 4 then (typecaseref18_Reaches.j1 k x1 x2 true x263000 x263001 x263002 x263003 x263004 x263005 x263006 x263007 x263008 x263009 x263010 x263011 x263012 x263013 x263014) else (if x263000 > 6 then (typecaseref18_Reaches.j1 k x1 x2 true x263000 x263001 x263002 x263003 x263004 x263005 x263006 x263007 x263008 x263009 x263010 x263011 x263012 x263013 x263014) else (typecaseref18_Reaches.j1 k x1 x2 ((((x2) % 4294967296) % 2) == 1) x263000 x263001 x263002 x263003 x263004 x263005 x263006 x263007 x263008 x263009 x263010 x263011 x263012 x263013 x263014))) else (typecaseref18_Reaches.j1 k x1 x2 true x263000 x263001 x263002 x263003 x263004 x263005 x263006 x263007 x263008 x263009 x263010 x263011 x263012 x263013 x263014))
def typecaseref18_Reaches.j1 : Nat → Int → Int → Bool → Int → Int → Int → ByteArray → Int → Int → Int → Int → Int → ByteArray → Int → List (S86) → Int → Bool → Bool → Option (Bool)
  | 0, _, _, _, _, _, _, _, _, _, _, _, _, _, _, _, _, _, _ => none
  | k + 1, x1, x2, x46, x263000, x263001, x263002, x263003, x263004, x263005, x263006, x263007, x263008, x263009, x263010, x263011, x263012, x263013, x263014 => if x46 = true then (some false) else (if x263000 = 4 then (typecaseref18_Reaches.j2 k x1 (wrap64 (x2)) 1048576 (x1 == 2) x263000 x263001 x263002 x263003 x263004 x263005 x263006 x263007 x263008 x263009 x263010 x263011 x263012 x263013 x263014) else (typecaseref18_Reaches.j2 k x1 (wrap64 (x2)) 1048576 false x263000 x263001 x263002 x263003 x263004 x263005 x263006 x263007 x263008 x263009 x263010 x263011 x263012 x263013 x263014))
def typecaseref18_Reaches.j2 : Nat → Int → Int → Int → Bool → Int → Int → Int → ByteArray → Int → Int → Int → Int → Int → ByteArray → Int → List (S86) → Int → Bool → Bool → Option (Bool)
  | 0, _, _, _, _, _, _, _, _, _, _, _, _, _, _, _, _, _, _, _ => none
  | k + 1, x1, x10, x11, x49, x263000, x263001, x263002, x263003, x263004, x263005, x263006, x263007, x263008, x263009, x263010, x263011, x263012, x263013, x263014 => if x49 = true then (if x10 ≥ (-256) then (some (decide (x10 < 256))) else (some false)) else (if x263000 = 4 then (typecaseref18_Reaches.j3 k x1 x10 x11 (x1 == 4) x263000 x263001 x263002 x263003 x263004 x263005 x263006 x263007 x263008 x263009 x263010 x263011 x263012 x263013 x263014) else (typecaseref18_Reaches.j3 k x1 x10 x11 false x263000 x263001 x263002 x263003 x263004 x263005 x263006 x263007 x263008 x263009 x263010 x263011 x263012 x263013 x263014))
def typecaseref18_Reaches.j3 : Nat → Int → Int → Int → Bool → Int → Int → Int → ByteArray → Int → Int → Int → Int → Int → ByteArray → Int → List (S86) → Int → Bool → Bool → Option (Bool)
  | 0, _, _, _, _, _, _, _, _, _, _, _, _, _, _, _, _, _, _, _ => none
  | k + 1, x1, x10, x11, x57, x263000, x263001, x263002, x263003, x263004, x263005, x263006, x263007, x263008, x263009, x263010, x263011, x263012, x263013, x263014 => if x57 = true then (if x10 ≥ (-4096) then (some (decide (x10 < 4096))) else (some false)) else (if x263000 = 4 then (if (wrap64 (x10 - 4)) ≥ (wrap64 (-x11)) then (some (decide ((wrap64 (x10 - 4)) < x11))) else (some false)) else (if x1 = 2 then (if x10 ≥ (-2048) then (some (decide (x10 < 2048))) else (some false)) else (if x1 = 8 then (some true) else (if x10 ≥ (wrap64 (-x11)) then (some (decide (x10 < x11))) else (some false)))))
end
def typecaseref18_Reaches.f (k : Nat) (a0_0 : Int) (a0_1 : Int) (a0_2 : Int) (a0_3 : ByteArray) (a0_4 : Int) (a0_5 : Int) (a0_6 : Int) (a0_7 : Int) (a0_8 : Int) (a0_9 : ByteArray) (a0_10 : Int) (l0_11 : List (S86)) (a0_12 : Int) (a0_13 : Bool) (a0_14 : Bool) (a1 : Int) (a2 : Int) : Option (Bool) := (typecaseref18_Classes.f k a0_0 a0_1 a0_2 a0_3 a0_4 a0_5 a0_6 a0_7 a0_8 a0_9 a0_10 l0_11 a0_12 a0_13 a0_14).bind fun t263 => (typecaseref18_Reaches.l0 k a1 a2 t263 false 0 a0_0 a0_1 a0_2 a0_3 a0_4 a0_5 a0_6 a0_7 a0_8 a0_9 a0_10 l0_11 a0_12 a0_13 a0_14)
theorem typecaseref18_Reaches.mono_l : ∀ k, (∀ y0 y1 y2 y3 y4 y5 y6 y7 y8 y9 y10 y11 y12 y13 y14 y15 y16 y17 y18 y19, LeO (typecaseref18_Reaches.l0 k y0 y1 y2 y3 y4 y5 y6 y7 y8 y9 y10 y11 y12 y13 y14 y15 y16 y17 y18 y19) (typecaseref18_Reaches.l0 (k + 1) y0 y1 y2 y3 y4 y5 y6 y7 y8 y9 y10 y11 y12 y13 y14 y15 y16 y17 y18 y19)) ∧ (∀ y0 y1 y2 y3 y4 y5 y6 y7 y8 y9 y10 y11 y12 y13 y14 y15 y16 y17, LeO (typecaseref18_Reaches.j1 k y0 y1 y2 y3 y4 y5 y6 y7 y8 y9 y10 y11 y12 y13 y14 y15 y16 y17) (typecaseref18_Reaches.j1 (k + 1) y0 y1 y2 y3 y4 y5 y6 y7 y8 y9 y10 y11 y12 y13 y14 y15 y16 y17)) ∧ (∀ y0 y1 y2 y3 y4 y5 y6 y7 y8 y9 y10 y11 y12 y13 y14 y15 y16 y17 y18, LeO (typecaseref18_Reaches.j2 k y0 y1 y2 y3 y4 y5 y6 y7 y8 y9 y10 y11 y12 y13 y14 y15 y16 y17 y18) (typecaseref18_Reaches.j2 (k + 1) y0 y1 y2 y3 y4 y5 y6 y7 y8 y9 y10 y11 y12 y13 y14 y15 y16 y17 y18)) ∧ (∀ y0 y1 y2 y3 y4 y5 y6 y7 y8 y9 y10 y11 y12 y13 y14 y15 y16 y17 y18, LeO (typecaseref18_Reaches.j3 k y0 y1 y2 y3 y4 y5 y6 y7 y8 y9 y10 y11 y12 y13 y14 y15 y16 y17 y18) (typecaseref18_Reaches.j3 (k + 1) y0 y1 y2 y3 y4 y5 y6 y7 y8 y9 y10 y11 y12 y13 y14 y15 y16 y17 y18))
  | 0 => ⟨fun _ _ _ _ _ _ _ _ _ _ _ _ _ _ _ _ _ _ _ _ r h => by simp [typecaseref18_Reaches.l0] at h, fun _ _ _ _ _ _ _ _ _ _ _ _ _ _ _ _ _ _ r h => by simp [typecaseref18_Reaches.j1] at h, fun _ _ _ _ _ _ _ _ _ _ _ _ _ _ _ _ _ _ _ r h => by simp [typecaseref18_Reaches.j2] at h, fun _ _ _ _ _ _ _ _ _ _ _ _ _ _ _ _ _ _ _ r h => by simp [typecaseref18_Reaches.j3] at h⟩
  | k + 1 => by
    obtain ⟨ih0, ih1, ih2, ih3⟩ := typecaseref18_Reaches.mono_l k
    refine ⟨?_, ?_, ?_, ?_⟩
    · intro y0 y1 y2 y3 y4 y5 y6 y7 y8 y9 y10 y11 y12 y13 y14 y15 y16 y17 y18 y19
      unfold typecaseref18_Reaches.l0
      repeat' first
      | (with_reducible exact ih0 _ _ _ _ _ _ _ _ _ _ _ _ _ _ _ _ _ _ _ _)
      | (with_reducible exact ih1 _ _ _ _ _ _ _ _ _ _ _ _ _ _ _ _ _ _)
      | (with_reducible exact ih2 _ _ _ _ _ _ _ _ _ _ _ _ _ _ _ _ _ _ _)
      | (with_reducible exact ih3 _ _ _ _ _ _ _ _ _ _ _ _ _ _ _ _ _ _ _)
      | (with_reducible exact typecaseref18_Classes.mono _ _ _ _ _ _ _ _ _ _ _ _ _ _ _ _)
      | (with_reducible exact LeO.refl _)
      | (with_reducible exact LeO.none _)
      | (with_reducible refine LeO.ite ?_ ?_)
      | (with_reducible refine LeO.bind ?_ (fun _ => ?_))
      | exact ih0 _ _ _ _ _ _ _ _ _ _ _ _ _ _ _ _ _ _ _ _
      | exact ih1 _ _ _ _ _ _ _ _ _ _ _ _ _ _ _ _ _ _
      | exact ih2 _ _ _ _ _ _ _ _ _ _ _ _ _ _ _ _ _ _ _
      | exact ih3 _ _ _ _ _ _ _ _ _ _ _ _ _ _ _ _ _ _ _
      | exact typecaseref18_Classes.mono _ _ _ _ _ _ _ _ _ _ _ _ _ _ _ _
      | exact LeO.none _
      | refine LeO.ite ?_ ?_
      | refine LeO.bind ?_ (fun _ => ?_)
    · intro y0 y1 y2 y3 y4 y5 y6 y7 y8 y9 y10 y11 y12 y13 y14 y15 y16 y17
      unfold typecaseref18_Reaches.j1
      repeat' first
      | (with_reducible exact ih0 _ _ _ _ _ _ _ _ _ _ _ _ _ _ _ _ _ _ _ _)
      | (with_reducible exact ih1 _ _ _ _ _ _ _ _ _ _ _ _ _ _ _ _ _ _)
      | (with_reducible exact ih2 _ _ _ _ _ _ _ _ _ _ _ _ _ _ _ _ _ _ _)
      | (with_reducible exact ih3 _ _ _ _ _ _ _ _ _ _ _ _ _ _ _ _ _ _ _)
      | (with_reducible exact typecaseref18_Classes.mono _ _ _ _ _ _ _ _ _ _ _ _ _ _ _ _)
      | (with_reducible exact LeO.refl _)
      | (with_reducible exact LeO.none _)
      | (with_reducible refine LeO.ite ?_ ?_)
      | (with_reducible refine LeO.bind ?_ (fun _ => ?_))
      | exact ih0 _ _ _ _ _ _ _ _ _ _ _ _ _ _ _ _ _ _ _ _
      | exact ih1 _ _ _ _ _ _ _ _ _ _ _ _ _ _ _ _ _ _
      | exact ih2 _ _ _ _ _ _ _ _ _ _ _ _ _ _ _ _ _ _ _
      | exact ih3 _ _ _ _ _ _ _ _ _ _ _ _ _ _ _ _ _ _ _
      | exact typecaseref18_Classes.mono _ _ _ _ _ _ _ _ _ _ _ _ _ _ _ _
      | exact LeO.none _
      | refine LeO.ite ?_ ?_
      | refine LeO.bind ?_ (fun _ => ?_)
    · intro y0 y1 y2 y3 y4 y5 y6 y7 y8 y9 y10 y11 y12 y13 y14 y15 y16 y17 y18
      unfold typecaseref18_Reaches.j2
      repeat' first
      | (with_reducible exact ih0 _ _ _ _ _ _ _ _ _ _ _ _ _ _ _ _ _ _ _ _)
      | (with_reducible exact ih1 _ _ _ _ _ _ _ _ _ _ _ _ _ _ _ _ _ _)
      | (with_reducible exact ih2 _ _ _ _ _ _ _ _ _ _ _ _ _ _ _ _ _ _ _)
      | (with_reducible exact ih3 _ _ _ _ _ _ _ _ _ _ _ _ _ _ _ _ _ _ _)
      | (with_reducible exact typecaseref18_Classes.mono _ _ _ _ _ _ _ _ _ _ _ _ _ _ _ _)
      | (with_reducible exact LeO.refl _)
      | (with_reducible exact LeO.none _)
      | (with_reducible refine LeO.ite ?_ ?_)
      | (with_reducible refine LeO.bind ?_ (fun _ => ?_))
      | exact ih0 _ _ _ _ _ _ _ _ _ _ _ _ _ _ _ _ _ _ _ _
      | exact ih1 _ _ _ _ _ _ _ _ _ _ _ _ _ _ _ _ _ _
      | exact ih2 _ _ _ _ _ _ _ _ _ _ _ _ _ _ _ _ _ _ _
      | exact ih3 _ _ _ _ _ _ _ _ _ _ _ _ _ _ _ _ _ _ _
      | exact typecaseref18_Classes.mono _ _ _ _ _ _ _ _ _ _ _ _ _ _ _ _
      | exact LeO.none _
      | refine LeO.ite ?_ ?_
      | refine LeO.bind ?_ (fun _ => ?_)
    · intro y0 y1 y2 y3 y4 y5 y6 y7 y8 y9 y10 y11 y12 y13 y14 y15 y16 y17 y18
      unfold typecaseref18_Reaches.j3
      repeat' first
      | (with_reducible exact ih0 _ _ _ _ _ _ _ _ _ _ _ _ _ _ _ _ _ _ _ _)
      | (with_reducible exact ih1 _ _ _ _ _ _ _ _ _ _ _ _ _ _ _ _ _ _)
      | (with_reducible exact ih2 _ _ _ _ _ _ _ _ _ _ _ _ _ _ _ _ _ _ _)
      | (with_reducible exact ih3 _ _ _ _ _ _ _ _ _ _ _ _ _ _ _ _ _ _ _)
      | (with_reducible exact typecaseref18_Classes.mono _ _ _ _ _ _ _ _ _ _ _ _ _ _ _ _)
      | (with_reducible exact LeO.refl _)
      | (with_reducible exact LeO.none _)
      | (with_reducible refine LeO.ite ?_ ?_)
      | (with_reducible refine LeO.bind ?_ (fun _ => ?_))
      | exact ih0 _ _ _ _ _ _ _ _ _ _ _ _ _ _ _ _ _ _ _ _
      | exact ih1 _ _ _ _ _ _ _ _ _ _ _ _ _ _ _ _ _ _
      | exact ih2 _ _ _ _ _ _ _ _ _ _ _ _ _ _ _ _ _ _ _
      | exact ih3 _ _ _ _ _ _ _ _ _ _ _ _ _ _ _ _ _ _ _
      | exact typecaseref18_Classes.mono _ _ _ _ _ _ _ _ _ _ _ _ _ _ _ _
      | exact LeO.none _
      | refine LeO.ite ?_ ?_
      | refine LeO.bind ?_ (fun _ => ?_)
theorem typecaseref18_Reaches.mono : ∀ a0 a1 a2 a3 a4 a5 a6 a7 a8 a9 a10 a11 a12 a13 a14 a15 a16 k, LeO (typecaseref18_Reaches.f k a0 a1 a2 a3 a4 a5 a6 a7 a8 a9 a10 a11 a12 a13 a14 a15 a16) (typecaseref18_Reaches.f (k + 1) a0 a1 a2 a3 a4 a5 a6 a7 a8 a9 a10 a11 a12 a13 a14 a15 a16) := by
  intro a0 a1 a2 a3 a4 a5 a6 a7 a8 a9 a10 a11 a12 a13 a14 a15 a16 k
  obtain ⟨ih0, ih1, ih2, ih3⟩ := typecaseref18_Reaches.mono_l k
  unfold typecaseref18_Reaches.f
  repeat' first
      | (with_reducible exact ih0 _ _ _ _ _ _ _ _ _ _ _ _ _ _ _ _ _ _ _ _)
      | (with_reducible exact ih1 _ _ _ _ _ _ _ _ _ _ _ _ _ _ _ _ _ _)
      | (with_reducible exact ih2 _ _ _ _ _ _ _ _ _ _ _ _ _ _ _ _ _ _ _)
      | (with_reducible exact ih3 _ _ _ _ _ _ _ _ _ _ _ _ _ _ _ _ _ _ _)
      | (with_reducible exact typecaseref18_Classes.mono _ _ _ _ _ _ _ _ _ _ _ _ _ _ _ _)
      | (with_reducible exact LeO.refl _)
      | (with_reducible exact LeO.none _)
      | (with_reducible refine LeO.ite ?_ ?_)
      | (with_reducible refine LeO.bind ?_ (fun _ => ?_))
      | exact ih0 _ _ _ _ _ _ _ _ _ _ _ _ _ _ _ _ _ _ _ _
      | exact ih1 _ _ _ _ _ _ _ _ _ _ _ _ _ _ _ _ _ _
      | exact ih2 _ _ _ _ _ _ _ _ _ _ _ _ _ _ _ _ _ _ _
      | exact ih3 _ _ _ _ _ _ _ _ _ _ _ _ _ _ _ _ _ _ _
      | exact typecaseref18_Classes.mono _ _ _ _ _ _ _ _ _ _ _ _ _ _ _ _
      | exact LeO.none _
      | refine LeO.ite ?_ ?_
      | refine LeO.bind ?_ (fun _ => ?_)
set_option maxHeartbeats 8000000 in
set_option maxRecDepth 100000 in
theorem typecaseref18_Reaches.calls (k : Nat) (a0_0 : Int) (a0_1 : Int) (a0_2 : Int) (a0_3 : ByteArray) (a0_4 : Int) (a0_5 : Int) (a0_6 : Int) (a0_7 : Int) (a0_8 : Int) (a0_9 : ByteArray) (a0_10 : Int) (A0_11 : Option Addr) (c0_11 : Nat) (l0_11 : List (S86)) (a0_12 : Int) (a0_13 : Bool) (a0_14 : Bool) (a1 : Int) (a2 : Int) (r : Bool) (w : World) (hr0_11 : Kd.C k86 w A0_11 l0_11.length l0_11) (hc0_11 : l0_11.length ≤ c0_11) (h : typecaseref18_Reaches.f k a0_0 a0_1 a0_2 a0_3 a0_4 a0_5 a0_6 a0_7 a0_8 a0_9 a0_10 l0_11 a0_12 a0_13 a0_14 a1 a2 = some r) :
    Calls Try.prog 9 #[.agg #[.int .i64 a0_0, .int .i64 a0_1, .int .i64 a0_2, .string a0_3, .int .i64 a0_4, .int .i64 a0_5, .int .i64 a0_6, .int .i64 a0_7, .int .i32 a0_8, .string a0_9, .int .i64 a0_10, .slice A0_11 l0_11.length c0_11, .int .u32 a0_12, .bool a0_13, .bool a0_14], .int .i64 a1, .int .i32 a2] w fun e w' => e = .returned (.bool r) ∧ Below w.heap.size w w' := by
  have hu27 := Try.underlying27
  have HR0_11 := Aside0.mk hr0_11
  have HC0_11 := Aside0.mk hc0_11
  clear hr0_11 hc0_11
  have HB := Aside0.mk (Below.refl w.heap.size w)
  have H : ((typecaseref18_Classes.f k a0_0 a0_1 a0_2 a0_3 a0_4 a0_5 a0_6 a0_7 a0_8 a0_9 a0_10 l0_11 a0_12 a0_13 a0_14).bind fun t263 => (typecaseref18_Reaches.l0 k a1 a2 t263 false 0 a0_0 a0_1 a0_2 a0_3 a0_4 a0_5 a0_6 a0_7 a0_8 a0_9 a0_10 l0_11 a0_12 a0_13 a0_14)) = some r := h
  clear h
  replace H := Option.bind_eq_some_iff.mp H
  obtain ⟨t263, A40, H⟩ := H
  replace H : (typecaseref18_Reaches.l0 k a1 a2 t263 false 0 a0_0 a0_1 a0_2 a0_3 a0_4 a0_5 a0_6 a0_7 a0_8 a0_9 a0_10 l0_11 a0_12 a0_13 a0_14) = some r := H
  have A4 := Aside0.mk A40
  clear A40
  have H' := Aside0.mk H
  clear H
  go_enter Try.func9, Try.ntmps9
  go_wp2_with (first | ((with_reducible refine gate_dst (N := 3) rfl ?_); refine box_event ?hg (N := 3) ?hd (cs := #[.int .i64 a0_0, .int .i64 a0_1, .int .i64 a0_2, .string a0_3, .int .i64 a0_4, .int .i64 a0_5, .int .i64 a0_6, .int .i64 a0_7, .int .i32 a0_8, .string a0_9, .int .i64 a0_10, .slice A0_11 l0_11.length c0_11, .int .u32 a0_12, .bool a0_13, .bool a0_14]) (t := 27) ?hr ?_; (case hd => rfl); (case hg => rfl); (case hr => first | (go_simp; done) | (go_simp; rfl)); intro gb262 hg w5 hbox hb; have n0_ := Aside0.mk (below_step (by repeat (first | (with_reducible first | exact HB.out | apply below_alloc | apply pw_below_drewN | apply below_drew1) | exact HB.out)) hb); have n1_ := Aside0.mk (hbox); have n2_ := Aside0.mk ((by rw [hg]; exact (below_size (by repeat (first | (with_reducible first | exact HB.out | apply below_alloc | apply pw_below_drewN | apply below_drew1) | exact HB.out))) : w.heap.size ≤ gb262)); have n3_ := Aside0.mk ((by rw [hg]; exact (below_size (by repeat (first | (with_reducible first | exact HB.out | apply below_alloc | apply pw_below_drewN | apply below_drew1) | exact HB.out))) : w.heap.size ≤ gb262)); clear HB; have HB := n0_; have BK262 := n1_; have GW262 := n2_; have GE262 := n3_; clear n0_ n1_ n2_ n3_; clear hb hbox hg; have hcz6_0 : w5.cell? ⟨gb262, 0, none⟩ = some (.int .i64 a0_0) := (blk_cell BK262.out 0).trans rfl; have hcz6_1 : w5.cell? ⟨gb262, 1, none⟩ = some (.int .i64 a0_1) := (blk_cell BK262.out 1).trans rfl; have hcz6_2 : w5.cell? ⟨gb262, 2, none⟩ = some (.int .i64 a0_2) := (blk_cell BK262.out 2).trans rfl; have hcz6_3 : w5.cell? ⟨gb262, 3, none⟩ = some (.string a0_3) := (blk_cell BK262.out 3).trans rfl; have hcz6_4 : w5.cell? ⟨gb262, 4, none⟩ = some (.int .i64 a0_4) := (blk_cell BK262.out 4).trans rfl; have hcz6_5 : w5.cell? ⟨gb262, 5, none⟩ = some (.int .i64 a0_5) := (blk_cell BK262.out 5).trans rfl; have hcz6_6 : w5.cell? ⟨gb262, 6, none⟩ = some (.int .i64 a0_6) := (blk_cell BK262.out 6).trans rfl; have hcz6_7 : w5.cell? ⟨gb262, 7, none⟩ = some (.int .i64 a0_7) := (blk_cell BK262.out 7).trans rfl; have hcz6_8 : w5.cell? ⟨gb262, 8, none⟩ = some (.int .i32 a0_8) := (blk_cell BK262.out 8).trans rfl; have hcz6_9 : w5.cell? ⟨gb262, 9, none⟩ = some (.string a0_9) := (blk_cell BK262.out 9).trans rfl; have hcz6_10 : w5.cell? ⟨gb262, 10, none⟩ = some (.int .i64 a0_10) := (blk_cell BK262.out 10).trans rfl; have hcz6_11 : w5.cell? ⟨gb262, 11, none⟩ = some (.slice A0_11 l0_11.length c0_11) := (blk_cell BK262.out 11).trans rfl; have hcz6_12 : w5.cell? ⟨gb262, 12, none⟩ = some (.int .u32 a0_12) := (blk_cell BK262.out 12).trans rfl; have hcz6_13 : w5.cell? ⟨gb262, 13, none⟩ = some (.bool a0_13) := (blk_cell BK262.out 13).trans rfl; have hcz6_14 : w5.cell? ⟨gb262, 14, none⟩ = some (.bool a0_14) := (blk_cell BK262.out 14).trans rfl; have hfz6_0 := blk_frozen BK262.out 0; have hfz6_1 := blk_frozen BK262.out 1; have hfz6_2 := blk_frozen BK262.out 2; have hfz6_3 := blk_frozen BK262.out 3; have hfz6_4 := blk_frozen BK262.out 4; have hfz6_5 := blk_frozen BK262.out 5; have hfz6_6 := blk_frozen BK262.out 6; have hfz6_7 := blk_frozen BK262.out 7; have hfz6_8 := blk_frozen BK262.out 8; have hfz6_9 := blk_frozen BK262.out 9; have hfz6_10 := blk_frozen BK262.out 10; have hfz6_11 := blk_frozen BK262.out 11; have hfz6_12 := blk_frozen BK262.out 12; have hfz6_13 := blk_frozen BK262.out 13; have hfz6_14 := blk_frozen BK262.out 14) | ((with_reducible refine gate_callee (f := 14) rfl ?_); refine goesL_ (some 13) rfl rfl Try.func14 (by kernel_rfl) rfl #[.agg #[.int .i64 a0_0, .int .i64 a0_1, .int .i64 a0_2, .string a0_3, .int .i64 a0_4, .int .i64 a0_5, .int .i64 a0_6, .int .i64 a0_7, .int .i32 a0_8, .string a0_9, .int .i64 a0_10, .slice A0_11 l0_11.length c0_11, .int .u32 a0_12, .bool a0_13, .bool a0_14]] rfl (by (try simp only [List.map_toArray, List.map_cons, List.map_nil]); first | done | rfl | (simp only [List.length_drop, List.length_take]; rfl)) ?_; (with_reducible refine (typecaseref18_Classes.calls k a0_0 a0_1 a0_2 a0_3 a0_4 a0_5 a0_6 a0_7 a0_8 a0_9 a0_10 _ _ l0_11 a0_12 a0_13 a0_14 t263 _ ?side1 ?side2 A4.out).mono ?_); (case side1 => repeat (first | exact (Kd.C_below HR0_11.out HB.out) | (with_reducible refine Kd.C_alloc ?_ _) | (with_reducible refine Kd.C_drewN ?_ _) | (with_reducible refine Kd.C_drew ?_))); (case side2 => exact HC0_11.out); rintro e w7 ⟨v264, rfl, ho0, hb⟩; refine ⟨_, rfl, ?_⟩; have n0_ := Aside0.mk (Kd.R_lower ho0 (below_size (by repeat (first | (with_reducible first | exact HB.out | apply below_alloc | apply pw_below_drewN | apply below_drew1 | refine below_set ?_ GE262.out) | exact HB.out)))); have n1_ := Aside0.mk (blk_below (g := gb262) (o := .cells #[.int .i64 a0_0, .int .i64 a0_1, .int .i64 a0_2, .string a0_3, .int .i64 a0_4, .int .i64 a0_5, .int .i64 a0_6, .int .i64 a0_7, .int .i32 a0_8, .string a0_9, .int .i64 a0_10, .slice A0_11 l0_11.length c0_11, .int .u32 a0_12, .bool a0_13, .bool a0_14] 27 (0, 0)) (by (with_reducible repeat (first | refine blk_drewN ?_ _ | refine blk_drew ?_ | refine blk_alloc ?_ _)); exact BK262.out) hb); have n2_ := Aside0.mk (below_step (by repeat (first | (with_reducible first | exact HB.out | apply below_alloc | apply pw_below_drewN | apply below_drew1 | refine below_set ?_ GE262.out) | exact HB.out)) hb); clear BK262; clear HB; have HO265 := n0_; have BK262 := n1_; have HB := n2_; clear n0_ n1_ n2_; (try clear hb); (try clear hb2); (try clear hk); (try clear hi); (try clear ho0)))
  go_loopg [8, 9] k (fun kq v8 v9 w' => ∃ (x8_1 : Bool) (x9_1 : Int), v8 = .bool x8_1 ∧ v9 = .int .i64 x9_1 ∧ Aside0 (typecaseref18_Reaches.l0 kq a1 a2 t263 x8_1 x9_1 a0_0 a0_1 a0_2 a0_3 a0_4 a0_5 a0_6 a0_7 a0_8 a0_9 a0_10 l0_11 a0_12 a0_13 a0_14 = some r) ∧ Aside0 (kq ≤ k) ∧ Aside0 (Kd.R (Kd.int .i64) 3 w' w.heap.size (fun _ => True) v264 t263) ∧ Aside0 (w'.heap[gb262]? = some (.cells #[.int .i64 a0_0, .int .i64 a0_1, .int .i64 a0_2, .string a0_3, .int .i64 a0_4, .int .i64 a0_5, .int .i64 a0_6, .int .i64 a0_7, .int .i32 a0_8, .string a0_9, .int .i64 a0_10, (.slice A0_11 l0_11.length c0_11), .int .u32 a0_12, .bool a0_13, .bool a0_14] 27 (0, 0))) ∧ Aside0 (Below w.heap.size w w'))
  case atStart => exact ⟨(false), (0), (by first | rfl | (simp; done) | (simp [*]; done)), (by first | rfl | (simp; done) | (simp [*]; done)), H', ⟨Nat.le_refl _⟩, ⟨by (with_reducible repeat (first | apply Kd.R_alloc | apply Kd.R_drewN | apply Kd.R_drew)); exact HO265.out⟩, ⟨by (with_reducible repeat (first | refine blk_drewN ?_ _ | refine blk_drew ?_ | refine blk_alloc ?_ _)); exact BK262.out⟩, ⟨by repeat (first | (with_reducible first | exact HB.out | apply below_alloc | apply pw_below_drewN | apply below_drew1 | refine below_set ?_ GE262.out) | exact HB.out)⟩⟩
  case round =>
    clear H'
    try clear c1
    try clear p2
    try clear hcz6_0 hcz6_1 hcz6_10 hcz6_11 hcz6_12 hcz6_13 hcz6_14 hcz6_2 hcz6_3 hcz6_4 hcz6_5 hcz6_6 hcz6_7 hcz6_8 hcz6_9 hfz6_0 hfz6_1 hfz6_10 hfz6_11 hfz6_12 hfz6_13 hfz6_14 hfz6_2 hfz6_3 hfz6_4 hfz6_5 hfz6_6 hfz6_7 hfz6_8 hfz6_9
    obtain ⟨x8_1, x9_1, rfl, rfl, HA, HK1, HO_7, BK262, HB⟩ := hrel
    cases gk with
    | zero => exact absurd HA.out (by simp [typecaseref18_Reaches.l0])
    | succ k1 =>
      have H := HA.out
      clear HA
      simp only [typecaseref18_Reaches.l0] at H
      by_cases c8 : x9_1 < (t263.length : Int)
      · rw [if_pos c8] at H
        have c8b0 : decide (x9_1 < (t263.length : Int)) = true := decide_eq_true c8
        clear c8
        by_cases c9 : x8_1 = true
        · subst c9
          have H1 : (typecaseref18_Reaches.l0 k1 a1 a2 t263 true (wrap64 (x9_1 + 1)) a0_0 a0_1 a0_2 a0_3 a0_4 a0_5 a0_6 a0_7 a0_8 a0_9 a0_10 l0_11 a0_12 a0_13 a0_14) = some r := by rw [if_pos rfl] at H; exact H
          clear H
          have H := H1
          clear H1
          have H' := Aside0.mk H
          clear H
          obtain ⟨Ao10, co10, eo10⟩ := Kd.R_slice HO_7.out
          subst eo10
          go_wp2
          go_roundg k1
          case measure => have := HK1.out; omega
          case rel => exact ⟨(true), (wrap64 (x9_1 + 1)), (by first | rfl | (simp; done) | (simp [*]; done)), (by first | rfl | (simp; done) | (simp [*]; done)), H', ⟨by have := HK1.out; omega⟩, ⟨by (with_reducible repeat (first | apply Kd.R_alloc | apply Kd.R_drewN | apply Kd.R_drew)); exact HO_7.out⟩, ⟨by (with_reducible repeat (first | refine blk_drewN ?_ _ | refine blk_drew ?_ | refine blk_alloc ?_ _)); exact BK262.out⟩, ⟨by repeat (first | (with_reducible first | exact HB.out | apply below_alloc | apply pw_below_drewN | apply below_drew1 | refine below_set ?_ GE262.out) | exact HB.out)⟩⟩
        · replace c9 := Bool.eq_false_iff.mpr c9
          subst c9
          have H1 : (if 0 ≤ x9_1 then (typecaseref18_Reaches.l0 k1 a1 a2 t263 ((rd t263 x9_1) == a1) (wrap64 (x9_1 + 1)) a0_0 a0_1 a0_2 a0_3 a0_4 a0_5 a0_6 a0_7 a0_8 a0_9 a0_10 l0_11 a0_12 a0_13 a0_14) else (none)) = some r := by rw [if_neg (show ¬ (false = true) by decide)] at H; exact H
          clear H
          have H := H1
          clear H1
          by_cases c11 : 0 ≤ x9_1
          · rw [if_pos c11] at H
            have c11b0 : decide (0 ≤ x9_1) = true := decide_eq_true c11
            clear c11
            have H' := Aside0.mk H
            clear H
            obtain ⟨Ao12, co12, eo12⟩ := Kd.R_slice HO_7.out
            subst eo12
            have p266 : 0 ≤ (x9_1 : Int) := of_decide_eq_true (by first | (with_reducible assumption) | assumption)
            have q266 : x9_1 < (t263.length : Int) := of_decide_eq_true (by first | (with_reducible assumption) | assumption)
            obtain ⟨ad266, e266, hx266_0⟩ := Kd.at_int (Kd.R_reads' HO_7.out).2.2 x9_1 p266 q266
            cases e266
            replace p266 := eq_true p266
            replace q266 := eq_true q266
            go_wp2
            go_roundg k1
            case measure => have := HK1.out; omega
            case rel => exact ⟨(((rd t263 x9_1) == a1)), (wrap64 (x9_1 + 1)), (by first | rfl | (simp; done) | (simp [*]; done)), (by first | rfl | (simp; done) | (simp [*]; done)), H', ⟨by have := HK1.out; omega⟩, ⟨by (with_reducible repeat (first | apply Kd.R_alloc | apply Kd.R_drewN | apply Kd.R_drew)); exact HO_7.out⟩, ⟨by (with_reducible repeat (first | refine blk_drewN ?_ _ | refine blk_drew ?_ | refine blk_alloc ?_ _)); exact BK262.out⟩, ⟨by repeat (first | (with_reducible first | exact HB.out | apply below_alloc | apply pw_below_drewN | apply below_drew1 | refine below_set ?_ GE262.out) | exact HB.out)⟩⟩
          · rw [if_neg c11] at H
            exact absurd H (by simp)
      · rw [if_neg c8] at H
        have c8b0 : decide (x9_1 < (t263.length : Int)) = false := decide_eq_false c8
        clear c8
        have HC13 := Aside0.mk H
        clear H
        obtain ⟨Ao14, co14, eo14⟩ := Kd.R_slice HO_7.out
        subst eo14
        go_upto_region 7 with (fail)
        go_cut [46] (fun v46 wc => ∃ (kq : Nat) (x46_12 : Bool), v46 = .bool x46_12 ∧ Aside0 (typecaseref18_Reaches.j1 kq a1 a2 x46_12 a0_0 a0_1 a0_2 a0_3 a0_4 a0_5 a0_6 a0_7 a0_8 a0_9 a0_10 l0_11 a0_12 a0_13 a0_14 = some r) ∧ Aside0 (kq ≤ k1) ∧ Aside0 (wc.heap[gb262]? = some (.cells #[.int .i64 a0_0, .int .i64 a0_1, .int .i64 a0_2, .string a0_3, .int .i64 a0_4, .int .i64 a0_5, .int .i64 a0_6, .int .i64 a0_7, .int .i32 a0_8, .string a0_9, .int .i64 a0_10, (.slice A0_11 l0_11.length c0_11), .int .u32 a0_12, .bool a0_13, .bool a0_14] 27 (0, 0))) ∧ Aside0 (Below w.heap.size w wc))
        case first =>
          have H := HC13.out
          clear HC13
          by_cases c15 : x8_1 = true
          · subst c15
            have H1 : (if a0_0 < 4 then (typecaseref18_Reaches.j1 k1 a1 a2 true a0_0 a0_1 a0_2 a0_3 a0_4 a0_5 a0_6 a0_7 a0_8 a0_9 a0_10 l0_11 a0_12 a0_13 a0_14) else (if a0_0 > 6 then (typecaseref18_Reaches.j1 k1 a1 a2 true a0_0 a0_1 a0_2 a0_3 a0_4 a0_5 a0_6 a0_7 a0_8 a0_9 a0_10 l0_11 a0_12 a0_13 a0_14) else (typecaseref18_Reaches.j1 k1 a1 a2 ((((a2) % 4294967296) % 2) == 1) a0_0 a0_1 a0_2 a0_3 a0_4 a0_5 a0_6 a0_7 a0_8 a0_9 a0_10 l0_11 a0_12 a0_13 a0_14))) = some r := by rw [if_pos rfl] at H; exact H
            clear H
            have H := H1
            clear H1
            by_cases c16 : a0_0 < 4
            · rw [if_pos c16] at H
              have c16b0 : decide (a0_0 < 4) = true := decide_eq_true c16
              clear c16
              (first | rw [c16b0] | (simp only [i64_w, i32_w]; rw [c16b0]) | skip)
              have H' := Aside0.mk H
              clear H
              have hcz17_0 : wr.cell? ⟨gb262, 0, none⟩ = some (.int .i64 a0_0) := (blk_cell BK262.out 0).trans rfl
              have hcz17_1 : wr.cell? ⟨gb262, 1, none⟩ = some (.int .i64 a0_1) := (blk_cell BK262.out 1).trans rfl
              have hcz17_2 : wr.cell? ⟨gb262, 2, none⟩ = some (.int .i64 a0_2) := (blk_cell BK262.out 2).trans rfl
              have hcz17_3 : wr.cell? ⟨gb262, 3, none⟩ = some (.string a0_3) := (blk_cell BK262.out 3).trans rfl
              have hcz17_4 : wr.cell? ⟨gb262, 4, none⟩ = some (.int .i64 a0_4) := (blk_cell BK262.out 4).trans rfl
              have hcz17_5 : wr.cell? ⟨gb262, 5, none⟩ = some (.int .i64 a0_5) := (blk_cell BK262.out 5).trans rfl
              have hcz17_6 : wr.cell? ⟨gb262, 6, none⟩ = some (.int .i64 a0_6) := (blk_cell BK262.out 6).trans rfl
              have hcz17_7 : wr.cell? ⟨gb262, 7, none⟩ = some (.int .i64 a0_7) := (blk_cell BK262.out 7).trans rfl
              have hcz17_8 : wr.cell? ⟨gb262, 8, none⟩ = some (.int .i32 a0_8) := (blk_cell BK262.out 8).trans rfl
              have hcz17_9 : wr.cell? ⟨gb262, 9, none⟩ = some (.string a0_9) := (blk_cell BK262.out 9).trans rfl
              have hcz17_10 : wr.cell? ⟨gb262, 10, none⟩ = some (.int .i64 a0_10) := (blk_cell BK262.out 10).trans rfl
              have hcz17_11 : wr.cell? ⟨gb262, 11, none⟩ = some (.slice A0_11 l0_11.length c0_11) := (blk_cell BK262.out 11).trans rfl
              have hcz17_12 : wr.cell? ⟨gb262, 12, none⟩ = some (.int .u32 a0_12) := (blk_cell BK262.out 12).trans rfl
              have hcz17_13 : wr.cell? ⟨gb262, 13, none⟩ = some (.bool a0_13) := (blk_cell BK262.out 13).trans rfl
              have hcz17_14 : wr.cell? ⟨gb262, 14, none⟩ = some (.bool a0_14) := (blk_cell BK262.out 14).trans rfl
              have hfz17_0 := blk_frozen BK262.out 0
              have hfz17_1 := blk_frozen BK262.out 1
              have hfz17_2 := blk_frozen BK262.out 2
              have hfz17_3 := blk_frozen BK262.out 3
              have hfz17_4 := blk_frozen BK262.out 4
              have hfz17_5 := blk_frozen BK262.out 5
              have hfz17_6 := blk_frozen BK262.out 6
              have hfz17_7 := blk_frozen BK262.out 7
              have hfz17_8 := blk_frozen BK262.out 8
              have hfz17_9 := blk_frozen BK262.out 9
              have hfz17_10 := blk_frozen BK262.out 10
              have hfz17_11 := blk_frozen BK262.out 11
              have hfz17_12 := blk_frozen BK262.out 12
              have hfz17_13 := blk_frozen BK262.out 13
              have hfz17_14 := blk_frozen BK262.out 14
              go_wp2
              go_meet
              case rel => exact ⟨_, (true), (by first | rfl | (simp; done) | (simp [*]; done)), H', ⟨by have := HK1.out; first | omega | exact Nat.le_refl _⟩, ⟨by (with_reducible repeat (first | refine blk_drewN ?_ _ | refine blk_drew ?_ | refine blk_alloc ?_ _)); exact BK262.out⟩, ⟨by repeat (first | (with_reducible first | exact HB.out | apply below_alloc | apply pw_below_drewN | apply below_drew1 | refine below_set ?_ GE262.out) | exact HB.out)⟩⟩
            · rw [if_neg c16] at H
              have c16b0 : decide (a0_0 < 4) = false := decide_eq_false c16
              clear c16
              (first | rw [c16b0] | (simp only [i64_w, i32_w]; rw [c16b0]) | skip)
              by_cases c18 : a0_0 > 6
              · rw [if_pos c18] at H
                have c18b0 : decide (6 < a0_0) = true := decide_eq_true c18
                clear c18
                have H' := Aside0.mk H
                clear H
                have hcz19_0 : wr.cell? ⟨gb262, 0, none⟩ = some (.int .i64 a0_0) := (blk_cell BK262.out 0).trans rfl
                have hcz19_1 : wr.cell? ⟨gb262, 1, none⟩ = some (.int .i64 a0_1) := (blk_cell BK262.out 1).trans rfl
                have hcz19_2 : wr.cell? ⟨gb262, 2, none⟩ = some (.int .i64 a0_2) := (blk_cell BK262.out 2).trans rfl
                have hcz19_3 : wr.cell? ⟨gb262, 3, none⟩ = some (.string a0_3) := (blk_cell BK262.out 3).trans rfl
                have hcz19_4 : wr.cell? ⟨gb262, 4, none⟩ = some (.int .i64 a0_4) := (blk_cell BK262.out 4).trans rfl
                have hcz19_5 : wr.cell? ⟨gb262, 5, none⟩ = some (.int .i64 a0_5) := (blk_cell BK262.out 5).trans rfl
                have hcz19_6 : wr.cell? ⟨gb262, 6, none⟩ = some (.int .i64 a0_6) := (blk_cell BK262.out 6).trans rfl
                have hcz19_7 : wr.cell? ⟨gb262, 7, none⟩ = some (.int .i64 a0_7) := (blk_cell BK262.out 7).trans rfl
                have hcz19_8 : wr.cell? ⟨gb262, 8, none⟩ = some (.int .i32 a0_8) := (blk_cell BK262.out 8).trans rfl
                have hcz19_9 : wr.cell? ⟨gb262, 9, none⟩ = some (.string a0_9) := (blk_cell BK262.out 9).trans rfl
                have hcz19_10 : wr.cell? ⟨gb262, 10, none⟩ = some (.int .i64 a0_10) := (blk_cell BK262.out 10).trans rfl
                have hcz19_11 : wr.cell? ⟨gb262, 11, none⟩ = some (.slice A0_11 l0_11.length c0_11) := (blk_cell BK262.out 11).trans rfl
                have hcz19_12 : wr.cell? ⟨gb262, 12, none⟩ = some (.int .u32 a0_12) := (blk_cell BK262.out 12).trans rfl
                have hcz19_13 : wr.cell? ⟨gb262, 13, none⟩ = some (.bool a0_13) := (blk_cell BK262.out 13).trans rfl
                have hcz19_14 : wr.cell? ⟨gb262, 14, none⟩ = some (.bool a0_14) := (blk_cell BK262.out 14).trans rfl
                have hfz19_0 := blk_frozen BK262.out 0
                have hfz19_1 := blk_frozen BK262.out 1
                have hfz19_2 := blk_frozen BK262.out 2
                have hfz19_3 := blk_frozen BK262.out 3
                have hfz19_4 := blk_frozen BK262.out 4
                have hfz19_5 := blk_frozen BK262.out 5
                have hfz19_6 := blk_frozen BK262.out 6
                have hfz19_7 := blk_frozen BK262.out 7
                have hfz19_8 := blk_frozen BK262.out 8
                have hfz19_9 := blk_frozen BK262.out 9
                have hfz19_10 := blk_frozen BK262.out 10
                have hfz19_11 := blk_frozen BK262.out 11
                have hfz19_12 := blk_frozen BK262.out 12
                have hfz19_13 := blk_frozen BK262.out 13
                have hfz19_14 := blk_frozen BK262.out 14
                go_wp2
                go_meet
                case rel => exact ⟨_, (true), (by first | rfl | (simp; done) | (simp [*]; done)), H', ⟨by have := HK1.out; first | omega | exact Nat.le_refl _⟩, ⟨by (with_reducible repeat (first | refine blk_drewN ?_ _ | refine blk_drew ?_ | refine blk_alloc ?_ _)); exact BK262.out⟩, ⟨by repeat (first | (with_reducible first | exact HB.out | apply below_alloc | apply pw_below_drewN | apply below_drew1 | refine below_set ?_ GE262.out) | exact HB.out)⟩⟩
              · rw [if_neg c18] at H
                have c18b0 : decide (6 < a0_0) = false := decide_eq_false c18
                clear c18
                have H' := Aside0.mk H
                clear H
                have hcz20_0 : wr.cell? ⟨gb262, 0, none⟩ = some (.int .i64 a0_0) := (blk_cell BK262.out 0).trans rfl
                have hcz20_1 : wr.cell? ⟨gb262, 1, none⟩ = some (.int .i64 a0_1) := (blk_cell BK262.out 1).trans rfl
                have hcz20_2 : wr.cell? ⟨gb262, 2, none⟩ = some (.int .i64 a0_2) := (blk_cell BK262.out 2).trans rfl
                have hcz20_3 : wr.cell? ⟨gb262, 3, none⟩ = some (.string a0_3) := (blk_cell BK262.out 3).trans rfl
                have hcz20_4 : wr.cell? ⟨gb262, 4, none⟩ = some (.int .i64 a0_4) := (blk_cell BK262.out 4).trans rfl
                have hcz20_5 : wr.cell? ⟨gb262, 5, none⟩ = some (.int .i64 a0_5) := (blk_cell BK262.out 5).trans rfl
                have hcz20_6 : wr.cell? ⟨gb262, 6, none⟩ = some (.int .i64 a0_6) := (blk_cell BK262.out 6).trans rfl
                have hcz20_7 : wr.cell? ⟨gb262, 7, none⟩ = some (.int .i64 a0_7) := (blk_cell BK262.out 7).trans rfl
                have hcz20_8 : wr.cell? ⟨gb262, 8, none⟩ = some (.int .i32 a0_8) := (blk_cell BK262.out 8).trans rfl
                have hcz20_9 : wr.cell? ⟨gb262, 9, none⟩ = some (.string a0_9) := (blk_cell BK262.out 9).trans rfl
                have hcz20_10 : wr.cell? ⟨gb262, 10, none⟩ = some (.int .i64 a0_10) := (blk_cell BK262.out 10).trans rfl
                have hcz20_11 : wr.cell? ⟨gb262, 11, none⟩ = some (.slice A0_11 l0_11.length c0_11) := (blk_cell BK262.out 11).trans rfl
                have hcz20_12 : wr.cell? ⟨gb262, 12, none⟩ = some (.int .u32 a0_12) := (blk_cell BK262.out 12).trans rfl
                have hcz20_13 : wr.cell? ⟨gb262, 13, none⟩ = some (.bool a0_13) := (blk_cell BK262.out 13).trans rfl
                have hcz20_14 : wr.cell? ⟨gb262, 14, none⟩ = some (.bool a0_14) := (blk_cell BK262.out 14).trans rfl
                have hfz20_0 := blk_frozen BK262.out 0
                have hfz20_1 := blk_frozen BK262.out 1
                have hfz20_2 := blk_frozen BK262.out 2
                have hfz20_3 := blk_frozen BK262.out 3
                have hfz20_4 := blk_frozen BK262.out 4
                have hfz20_5 := blk_frozen BK262.out 5
                have hfz20_6 := blk_frozen BK262.out 6
                have hfz20_7 := blk_frozen BK262.out 7
                have hfz20_8 := blk_frozen BK262.out 8
                have hfz20_9 := blk_frozen BK262.out 9
                have hfz20_10 := blk_frozen BK262.out 10
                have hfz20_11 := blk_frozen BK262.out 11
                have hfz20_12 := blk_frozen BK262.out 12
                have hfz20_13 := blk_frozen BK262.out 13
                have hfz20_14 := blk_frozen BK262.out 14
                go_wp2
                go_meet
                case rel => exact ⟨_, (((((a2) % 4294967296) % 2) == 1)), (by first | rfl | (simp; done) | (simp [*]; done)), H', ⟨by have := HK1.out; first | omega | exact Nat.le_refl _⟩, ⟨by (with_reducible repeat (first | refine blk_drewN ?_ _ | refine blk_drew ?_ | refine blk_alloc ?_ _)); exact BK262.out⟩, ⟨by repeat (first | (with_reducible first | exact HB.out | apply below_alloc | apply pw_below_drewN | apply below_drew1 | refine below_set ?_ GE262.out) | exact HB.out)⟩⟩
          · replace c15 := Bool.eq_false_iff.mpr c15
            subst c15
            have H1 : (typecaseref18_Reaches.j1 k1 a1 a2 true a0_0 a0_1 a0_2 a0_3 a0_4 a0_5 a0_6 a0_7 a0_8 a0_9 a0_10 l0_11 a0_12 a0_13 a0_14) = some r := by rw [if_neg (show ¬ (false = true) by decide)] at H; exact H
            clear H
            have H := H1
            clear H1
            have H' := Aside0.mk H
            clear H
            go_wp2
            go_meet
            case rel => exact ⟨_, (true), (by first | rfl | (simp; done) | (simp [*]; done)), H', ⟨by have := HK1.out; first | omega | exact Nat.le_refl _⟩, ⟨by (with_reducible repeat (first | refine blk_drewN ?_ _ | refine blk_drew ?_ | refine blk_alloc ?_ _)); exact BK262.out⟩, ⟨by repeat (first | (with_reducible first | exact HB.out | apply below_alloc | apply pw_below_drewN | apply below_drew1 | refine below_set ?_ GE262.out) | exact HB.out)⟩⟩
        case rest =>
          clear HC13
          try clear c1
          try clear p2
          try clear q2
          try clear hx2
          try clear p6
          try clear c8
          try clear c8b0
          try clear c9
          try clear c11
          try clear c11b0
          try clear c14
          try clear c15
          try clear c16
          try clear c16b0
          try clear c18
          try clear c18b0
          try clear hcz17_0 hcz17_1 hcz17_10 hcz17_11 hcz17_12 hcz17_13 hcz17_14 hcz17_2 hcz17_3 hcz17_4 hcz17_5 hcz17_6 hcz17_7 hcz17_8 hcz17_9 hfz17_0 hfz17_1 hfz17_10 hfz17_11 hfz17_12 hfz17_13 hfz17_14 hfz17_2 hfz17_3 hfz17_4 hfz17_5 hfz17_6 hfz17_7 hfz17_8 hfz17_9
          try clear hcz19_0 hcz19_1 hcz19_10 hcz19_11 hcz19_12 hcz19_13 hcz19_14 hcz19_2 hcz19_3 hcz19_4 hcz19_5 hcz19_6 hcz19_7 hcz19_8 hcz19_9 hfz19_0 hfz19_1 hfz19_10 hfz19_11 hfz19_12 hfz19_13 hfz19_14 hfz19_2 hfz19_3 hfz19_4 hfz19_5 hfz19_6 hfz19_7 hfz19_8 hfz19_9
          try clear hcz20_0 hcz20_1 hcz20_10 hcz20_11 hcz20_12 hcz20_13 hcz20_14 hcz20_2 hcz20_3 hcz20_4 hcz20_5 hcz20_6 hcz20_7 hcz20_8 hcz20_9 hfz20_0 hfz20_1 hfz20_10 hfz20_11 hfz20_12 hfz20_13 hfz20_14 hfz20_2 hfz20_3 hfz20_4 hfz20_5 hfz20_6 hfz20_7 hfz20_8 hfz20_9
          try clear hcz6_0 hcz6_1 hcz6_10 hcz6_11 hcz6_12 hcz6_13 hcz6_14 hcz6_2 hcz6_3 hcz6_4 hcz6_5 hcz6_6 hcz6_7 hcz6_8 hcz6_9 hfz6_0 hfz6_1 hfz6_10 hfz6_11 hfz6_12 hfz6_13 hfz6_14 hfz6_2 hfz6_3 hfz6_4 hfz6_5 hfz6_6 hfz6_7 hfz6_8 hfz6_9
          try clear hx266_0
          try clear p2
          try clear p266
          try clear q266
          obtain ⟨kq, x46_12, rfl, HA, HJ12, BK262, HB⟩ := hcut
          cases kq with
          | zero => exact absurd HA.out (by simp [typecaseref18_Reaches.j1])
          | succ kj12 =>
            have H := HA.out
            clear HA
            simp only [typecaseref18_Reaches.j1] at H
            by_cases c21 : x46_12 = true
            · subst c21
              have H1 : (some false) = some r := by rw [if_pos rfl] at H; exact H
              clear H
              have H := H1
              clear H1
              obtain rfl := Option.some.inj H
              go_wp2
              go_ret
              exact ⟨by first | rfl | (simp [errW_none, errW_some] <;> rfl) | (simp [*, errW_none, errW_some] <;> rfl), by repeat (first | (with_reducible first | exact HB.out | apply below_alloc | apply pw_below_drewN | apply below_drew1 | refine below_set ?_ GE262.out) | exact HB.out)⟩
            · replace c21 := Bool.eq_false_iff.mpr c21
              subst c21
              have H1 : (if a0_0 = 4 then (typecaseref18_Reaches.j2 kj12 a1 (wrap64 (a2)) 1048576 (a1 == 2) a0_0 a0_1 a0_2 a0_3 a0_4 a0_5 a0_6 a0_7 a0_8 a0_9 a0_10 l0_11 a0_12 a0_13 a0_14) else (typecaseref18_Reaches.j2 kj12 a1 (wrap64 (a2)) 1048576 false a0_0 a0_1 a0_2 a0_3 a0_4 a0_5 a0_6 a0_7 a0_8 a0_9 a0_10 l0_11 a0_12 a0_13 a0_14)) = some r := by rw [if_neg (show ¬ (false = true) by decide)] at H; exact H
              clear H
              have H := H1
              clear H1
              have HC22 := Aside0.mk H
              clear H
              go_upto_region 11 with (fail)
              go_cut [49] (fun v49 wc => ∃ (kq : Nat) (x49_21 : Bool), v49 = .bool x49_21 ∧ Aside0 (typecaseref18_Reaches.j2 kq a1 (wrap64 (a2)) 1048576 x49_21 a0_0 a0_1 a0_2 a0_3 a0_4 a0_5 a0_6 a0_7 a0_8 a0_9 a0_10 l0_11 a0_12 a0_13 a0_14 = some r) ∧ Aside0 (kq ≤ kj12) ∧ Aside0 (wc.heap[gb262]? = some (.cells #[.int .i64 a0_0, .int .i64 a0_1, .int .i64 a0_2, .string a0_3, .int .i64 a0_4, .int .i64 a0_5, .int .i64 a0_6, .int .i64 a0_7, .int .i32 a0_8, .string a0_9, .int .i64 a0_10, (.slice A0_11 l0_11.length c0_11), .int .u32 a0_12, .bool a0_13, .bool a0_14] 27 (0, 0))) ∧ Aside0 (Below w.heap.size w wc))
              case first =>
                have H := HC22.out
                clear HC22
                by_cases c23 : a0_0 = 4
                · rw [if_pos c23] at H
                  have c23b0 : (a0_0 == 4) = true := beq_iff_eq.mpr c23
                  have c23b1 : (a0_0 != 4) = false := bne_eq_false_iff_eq.mpr c23
                  clear c23
                  (first | rw [c23b0] | (simp only [i64_w, i32_w]; rw [c23b0]) | skip)
                  have H' := Aside0.mk H
                  clear H
                  have hcz24_0 : wc.cell? ⟨gb262, 0, none⟩ = some (.int .i64 a0_0) := (blk_cell BK262.out 0).trans rfl
                  have hcz24_1 : wc.cell? ⟨gb262, 1, none⟩ = some (.int .i64 a0_1) := (blk_cell BK262.out 1).trans rfl
                  have hcz24_2 : wc.cell? ⟨gb262, 2, none⟩ = some (.int .i64 a0_2) := (blk_cell BK262.out 2).trans rfl
                  have hcz24_3 : wc.cell? ⟨gb262, 3, none⟩ = some (.string a0_3) := (blk_cell BK262.out 3).trans rfl
                  have hcz24_4 : wc.cell? ⟨gb262, 4, none⟩ = some (.int .i64 a0_4) := (blk_cell BK262.out 4).trans rfl
                  have hcz24_5 : wc.cell? ⟨gb262, 5, none⟩ = some (.int .i64 a0_5) := (blk_cell BK262.out 5).trans rfl
                  have hcz24_6 : wc.cell? ⟨gb262, 6, none⟩ = some (.int .i64 a0_6) := (blk_cell BK262.out 6).trans rfl
                  have hcz24_7 : wc.cell? ⟨gb262, 7, none⟩ = some (.int .i64 a0_7) := (blk_cell BK262.out 7).trans rfl
                  have hcz24_8 : wc.cell? ⟨gb262, 8, none⟩ = some (.int .i32 a0_8) := (blk_cell BK262.out 8).trans rfl
                  have hcz24_9 : wc.cell? ⟨gb262, 9, none⟩ = some (.string a0_9) := (blk_cell BK262.out 9).trans rfl
                  have hcz24_10 : wc.cell? ⟨gb262, 10, none⟩ = some (.int .i64 a0_10) := (blk_cell BK262.out 10).trans rfl
                  have hcz24_11 : wc.cell? ⟨gb262, 11, none⟩ = some (.slice A0_11 l0_11.length c0_11) := (blk_cell BK262.out 11).trans rfl
                  have hcz24_12 : wc.cell? ⟨gb262, 12, none⟩ = some (.int .u32 a0_12) := (blk_cell BK262.out 12).trans rfl
                  have hcz24_13 : wc.cell? ⟨gb262, 13, none⟩ = some (.bool a0_13) := (blk_cell BK262.out 13).trans rfl
                  have hcz24_14 : wc.cell? ⟨gb262, 14, none⟩ = some (.bool a0_14) := (blk_cell BK262.out 14).trans rfl
                  have hfz24_0 := blk_frozen BK262.out 0
                  have hfz24_1 := blk_frozen BK262.out 1
                  have hfz24_2 := blk_frozen BK262.out 2
                  have hfz24_3 := blk_frozen BK262.out 3
                  have hfz24_4 := blk_frozen BK262.out 4
                  have hfz24_5 := blk_frozen BK262.out 5
                  have hfz24_6 := blk_frozen BK262.out 6
                  have hfz24_7 := blk_frozen BK262.out 7
                  have hfz24_8 := blk_frozen BK262.out 8
                  have hfz24_9 := blk_frozen BK262.out 9
                  have hfz24_10 := blk_frozen BK262.out 10
                  have hfz24_11 := blk_frozen BK262.out 11
                  have hfz24_12 := blk_frozen BK262.out 12
                  have hfz24_13 := blk_frozen BK262.out 13
                  have hfz24_14 := blk_frozen BK262.out 14
                  go_wp2
                  go_meet
                  case rel => exact ⟨_, ((a1 == 2)), (by first | rfl | (simp; done) | (simp [*]; done)), H', ⟨by have := HK1.out; have := HJ12.out; first | omega | exact Nat.le_refl _⟩, ⟨by (with_reducible repeat (first | refine blk_drewN ?_ _ | refine blk_drew ?_ | refine blk_alloc ?_ _)); exact BK262.out⟩, ⟨by repeat (first | (with_reducible first | exact HB.out | apply below_alloc | apply pw_below_drewN | apply below_drew1 | refine below_set ?_ GE262.out) | exact HB.out)⟩⟩
                · rw [if_neg c23] at H
                  have c23b0 : (a0_0 == 4) = false := beq_eq_false_iff_ne.mpr c23
                  have c23b1 : (a0_0 != 4) = true := bne_iff_ne.mpr c23
                  (first | rw [c23b0] | (simp only [i64_w, i32_w]; rw [c23b0]) | skip)
                  have H' := Aside0.mk H
                  clear H
                  have hcz25_0 : wc.cell? ⟨gb262, 0, none⟩ = some (.int .i64 a0_0) := (blk_cell BK262.out 0).trans rfl
                  have hcz25_1 : wc.cell? ⟨gb262, 1, none⟩ = some (.int .i64 a0_1) := (blk_cell BK262.out 1).trans rfl
                  have hcz25_2 : wc.cell? ⟨gb262, 2, none⟩ = some (.int .i64 a0_2) := (blk_cell BK262.out 2).trans rfl
                  have hcz25_3 : wc.cell? ⟨gb262, 3, none⟩ = some (.string a0_3) := (blk_cell BK262.out 3).trans rfl
                  have hcz25_4 : wc.cell? ⟨gb262, 4, none⟩ = some (.int .i64 a0_4) := (blk_cell BK262.out 4).trans rfl
                  have hcz25_5 : wc.cell? ⟨gb262, 5, none⟩ = some (.int .i64 a0_5) := (blk_cell BK262.out 5).trans rfl
                  have hcz25_6 : wc.cell? ⟨gb262, 6, none⟩ = some (.int .i64 a0_6) := (blk_cell BK262.out 6).trans rfl
                  have hcz25_7 : wc.cell? ⟨gb262, 7, none⟩ = some (.int .i64 a0_7) := (blk_cell BK262.out 7).trans rfl
                  have hcz25_8 : wc.cell? ⟨gb262, 8, none⟩ = some (.int .i32 a0_8) := (blk_cell BK262.out 8).trans rfl
                  have hcz25_9 : wc.cell? ⟨gb262, 9, none⟩ = some (.string a0_9) := (blk_cell BK262.out 9).trans rfl
                  have hcz25_10 : wc.cell? ⟨gb262, 10, none⟩ = some (.int .i64 a0_10) := (blk_cell BK262.out 10).trans rfl
                  have hcz25_11 : wc.cell? ⟨gb262, 11, none⟩ = some (.slice A0_11 l0_11.length c0_11) := (blk_cell BK262.out 11).trans rfl
                  have hcz25_12 : wc.cell? ⟨gb262, 12, none⟩ = some (.int .u32 a0_12) := (blk_cell BK262.out 12).trans rfl
                  have hcz25_13 : wc.cell? ⟨gb262, 13, none⟩ = some (.bool a0_13) := (blk_cell BK262.out 13).trans rfl
                  have hcz25_14 : wc.cell? ⟨gb262, 14, none⟩ = some (.bool a0_14) := (blk_cell BK262.out 14).trans rfl
                  have hfz25_0 := blk_frozen BK262.out 0
                  have hfz25_1 := blk_frozen BK262.out 1
                  have hfz25_2 := blk_frozen BK262.out 2
                  have hfz25_3 := blk_frozen BK262.out 3
                  have hfz25_4 := blk_frozen BK262.out 4
                  have hfz25_5 := blk_frozen BK262.out 5
                  have hfz25_6 := blk_frozen BK262.out 6
                  have hfz25_7 := blk_frozen BK262.out 7
                  have hfz25_8 := blk_frozen BK262.out 8
                  have hfz25_9 := blk_frozen BK262.out 9
                  have hfz25_10 := blk_frozen BK262.out 10
                  have hfz25_11 := blk_frozen BK262.out 11
                  have hfz25_12 := blk_frozen BK262.out 12
                  have hfz25_13 := blk_frozen BK262.out 13
                  have hfz25_14 := blk_frozen BK262.out 14
                  go_wp2
                  go_meet
                  case rel => exact ⟨_, (false), (by first | rfl | (simp; done) | (simp [*]; done)), H', ⟨by have := HK1.out; have := HJ12.out; first | omega | exact Nat.le_refl _⟩, ⟨by (with_reducible repeat (first | refine blk_drewN ?_ _ | refine blk_drew ?_ | refine blk_alloc ?_ _)); exact BK262.out⟩, ⟨by repeat (first | (with_reducible first | exact HB.out | apply below_alloc | apply pw_below_drewN | apply below_drew1 | refine below_set ?_ GE262.out) | exact HB.out)⟩⟩
              case rest =>
                clear HC22
                try clear c1
                try clear c2
                try clear p2
                try clear q2
                try clear hx2
                try clear p6
                try clear c8
                try clear c8b0
                try clear c9
                try clear c11
                try clear c11b0
                try clear c14
                try clear c15
                try clear c16
                try clear c16b0
                try clear c18
                try clear c18b0
                try clear c21
                try clear c23
                try clear c23b0
                try clear c23b1
                try clear hcz17_0 hcz17_1 hcz17_10 hcz17_11 hcz17_12 hcz17_13 hcz17_14 hcz17_2 hcz17_3 hcz17_4 hcz17_5 hcz17_6 hcz17_7 hcz17_8 hcz17_9 hfz17_0 hfz17_1 hfz17_10 hfz17_11 hfz17_12 hfz17_13 hfz17_14 hfz17_2 hfz17_3 hfz17_4 hfz17_5 hfz17_6 hfz17_7 hfz17_8 hfz17_9
                try clear hcz19_0 hcz19_1 hcz19_10 hcz19_11 hcz19_12 hcz19_13 hcz19_14 hcz19_2 hcz19_3 hcz19_4 hcz19_5 hcz19_6 hcz19_7 hcz19_8 hcz19_9 hfz19_0 hfz19_1 hfz19_10 hfz19_11 hfz19_12 hfz19_13 hfz19_14 hfz19_2 hfz19_3 hfz19_4 hfz19_5 hfz19_6 hfz19_7 hfz19_8 hfz19_9
                try clear hcz20_0 hcz20_1 hcz20_10 hcz20_11 hcz20_12 hcz20_13 hcz20_14 hcz20_2 hcz20_3 hcz20_4 hcz20_5 hcz20_6 hcz20_7 hcz20_8 hcz20_9 hfz20_0 hfz20_1 hfz20_10 hfz20_11 hfz20_12 hfz20_13 hfz20_14 hfz20_2 hfz20_3 hfz20_4 hfz20_5 hfz20_6 hfz20_7 hfz20_8 hfz20_9
                try clear hcz24_0 hcz24_1 hcz24_10 hcz24_11 hcz24_12 hcz24_13 hcz24_14 hcz24_2 hcz24_3 hcz24_4 hcz24_5 hcz24_6 hcz24_7 hcz24_8 hcz24_9 hfz24_0 hfz24_1 hfz24_10 hfz24_11 hfz24_12 hfz24_13 hfz24_14 hfz24_2 hfz24_3 hfz24_4 hfz24_5 hfz24_6 hfz24_7 hfz24_8 hfz24_9
                try clear hcz25_0 hcz25_1 hcz25_10 hcz25_11 hcz25_12 hcz25_13 hcz25_14 hcz25_2 hcz25_3 hcz25_4 hcz25_5 hcz25_6 hcz25_7 hcz25_8 hcz25_9 hfz25_0 hfz25_1 hfz25_10 hfz25_11 hfz25_12 hfz25_13 hfz25_14 hfz25_2 hfz25_3 hfz25_4 hfz25_5 hfz25_6 hfz25_7 hfz25_8 hfz25_9
                try clear hcz6_0 hcz6_1 hcz6_10 hcz6_11 hcz6_12 hcz6_13 hcz6_14 hcz6_2 hcz6_3 hcz6_4 hcz6_5 hcz6_6 hcz6_7 hcz6_8 hcz6_9 hfz6_0 hfz6_1 hfz6_10 hfz6_11 hfz6_12 hfz6_13 hfz6_14 hfz6_2 hfz6_3 hfz6_4 hfz6_5 hfz6_6 hfz6_7 hfz6_8 hfz6_9
                try clear hx266_0
                try clear p2
                try clear p266
                try clear p6
                try clear q2
                try clear q266
                obtain ⟨kq, x49_21, rfl, HA, HJ21, BK262, HB⟩ := hcut
                cases kq with
                | zero => exact absurd HA.out (by simp [typecaseref18_Reaches.j2])
                | succ kj21 =>
                  have H := HA.out
                  clear HA
                  simp only [typecaseref18_Reaches.j2] at H
                  by_cases c26 : x49_21 = true
                  · subst c26
                    have H1 : (if (wrap64 (a2)) ≥ (-256) then (some (decide ((wrap64 (a2)) < 256))) else (some false)) = some r := by rw [if_pos rfl] at H; exact H
                    clear H
                    have H := H1
                    clear H1
                    by_cases c27 : (wrap64 (a2)) ≥ (-256)
                    · rw [if_pos c27] at H
                      have c27b0 : decide ((-256) ≤ (wrap64 (a2))) = true := decide_eq_true c27
                      clear c27
                      obtain rfl := Option.some.inj H
                      go_wp2
                      go_ret
                      exact ⟨by first | rfl | (simp [errW_none, errW_some] <;> rfl) | (simp [*, errW_none, errW_some] <;> rfl), by repeat (first | (with_reducible first | exact HB.out | apply below_alloc | apply pw_below_drewN | apply below_drew1 | refine below_set ?_ GE262.out) | exact HB.out)⟩
                    · rw [if_neg c27] at H
                      have c27b0 : decide ((-256) ≤ (wrap64 (a2))) = false := decide_eq_false c27
                      clear c27
                      obtain rfl := Option.some.inj H
                      go_wp2
                      go_ret
                      exact ⟨by first | rfl | (simp [errW_none, errW_some] <;> rfl) | (simp [*, errW_none, errW_some] <;> rfl), by repeat (first | (with_reducible first | exact HB.out | apply below_alloc | apply pw_below_drewN | apply below_drew1 | refine below_set ?_ GE262.out) | exact HB.out)⟩
                  · replace c26 := Bool.eq_false_iff.mpr c26
                    subst c26
                    have H1 : (if a0_0 = 4 then (typecaseref18_Reaches.j3 kj21 a1 (wrap64 (a2)) 1048576 (a1 == 4) a0_0 a0_1 a0_2 a0_3 a0_4 a0_5 a0_6 a0_7 a0_8 a0_9 a0_10 l0_11 a0_12 a0_13 a0_14) else (typecaseref18_Reaches.j3 kj21 a1 (wrap64 (a2)) 1048576 false a0_0 a0_1 a0_2 a0_3 a0_4 a0_5 a0_6 a0_7 a0_8 a0_9 a0_10 l0_11 a0_12 a0_13 a0_14)) = some r := by rw [if_neg (show ¬ (false = true) by decide)] at H; exact H
                    clear H
                    have H := H1
                    clear H1
                    have HC28 := Aside0.mk H
                    clear H
                    go_upto_region 13 with (fail)
                    go_cut [57] (fun v57 wc => ∃ (kq : Nat) (x57_27 : Bool), v57 = .bool x57_27 ∧ Aside0 (typecaseref18_Reaches.j3 kq a1 (wrap64 (a2)) 1048576 x57_27 a0_0 a0_1 a0_2 a0_3 a0_4 a0_5 a0_6 a0_7 a0_8 a0_9 a0_10 l0_11 a0_12 a0_13 a0_14 = some r) ∧ Aside0 (kq ≤ kj21) ∧ Aside0 (wc.heap[gb262]? = some (.cells #[.int .i64 a0_0, .int .i64 a0_1, .int .i64 a0_2, .string a0_3, .int .i64 a0_4, .int .i64 a0_5, .int .i64 a0_6, .int .i64 a0_7, .int .i32 a0_8, .string a0_9, .int .i64 a0_10, (.slice A0_11 l0_11.length c0_11), .int .u32 a0_12, .bool a0_13, .bool a0_14] 27 (0, 0))) ∧ Aside0 (Below w.heap.size w wc))
                    case first =>
                      have H := HC28.out
                      clear HC28
                      by_cases c29 : a0_0 = 4
                      · rw [if_pos c29] at H
                        have c29b0 : (a0_0 == 4) = true := beq_iff_eq.mpr c29
                        have c29b1 : (a0_0 != 4) = false := bne_eq_false_iff_eq.mpr c29
                        clear c29
                        (first | rw [c29b0] | (simp only [i64_w, i32_w]; rw [c29b0]) | skip)
                        have H' := Aside0.mk H
                        clear H
                        have hcz30_0 : wc.cell? ⟨gb262, 0, none⟩ = some (.int .i64 a0_0) := (blk_cell BK262.out 0).trans rfl
                        have hcz30_1 : wc.cell? ⟨gb262, 1, none⟩ = some (.int .i64 a0_1) := (blk_cell BK262.out 1).trans rfl
                        have hcz30_2 : wc.cell? ⟨gb262, 2, none⟩ = some (.int .i64 a0_2) := (blk_cell BK262.out 2).trans rfl
                        have hcz30_3 : wc.cell? ⟨gb262, 3, none⟩ = some (.string a0_3) := (blk_cell BK262.out 3).trans rfl
                        have hcz30_4 : wc.cell? ⟨gb262, 4, none⟩ = some (.int .i64 a0_4) := (blk_cell BK262.out 4).trans rfl
                        have hcz30_5 : wc.cell? ⟨gb262, 5, none⟩ = some (.int .i64 a0_5) := (blk_cell BK262.out 5).trans rfl
                        have hcz30_6 : wc.cell? ⟨gb262, 6, none⟩ = some (.int .i64 a0_6) := (blk_cell BK262.out 6).trans rfl
                        have hcz30_7 : wc.cell? ⟨gb262, 7, none⟩ = some (.int .i64 a0_7) := (blk_cell BK262.out 7).trans rfl
                        have hcz30_8 : wc.cell? ⟨gb262, 8, none⟩ = some (.int .i32 a0_8) := (blk_cell BK262.out 8).trans rfl
                        have hcz30_9 : wc.cell? ⟨gb262, 9, none⟩ = some (.string a0_9) := (blk_cell BK262.out 9).trans rfl
                        have hcz30_10 : wc.cell? ⟨gb262, 10, none⟩ = some (.int .i64 a0_10) := (blk_cell BK262.out 10).trans rfl
                        have hcz30_11 : wc.cell? ⟨gb262, 11, none⟩ = some (.slice A0_11 l0_11.length c0_11) := (blk_cell BK262.out 11).trans rfl
                        have hcz30_12 : wc.cell? ⟨gb262, 12, none⟩ = some (.int .u32 a0_12) := (blk_cell BK262.out 12).trans rfl
                        have hcz30_13 : wc.cell? ⟨gb262, 13, none⟩ = some (.bool a0_13) := (blk_cell BK262.out 13).trans rfl
                        have hcz30_14 : wc.cell? ⟨gb262, 14, none⟩ = some (.bool a0_14) := (blk_cell BK262.out 14).trans rfl
                        have hfz30_0 := blk_frozen BK262.out 0
                        have hfz30_1 := blk_frozen BK262.out 1
                        have hfz30_2 := blk_frozen BK262.out 2
                        have hfz30_3 := blk_frozen BK262.out 3
                        have hfz30_4 := blk_frozen BK262.out 4
                        have hfz30_5 := blk_frozen BK262.out 5
                        have hfz30_6 := blk_frozen BK262.out 6
                        have hfz30_7 := blk_frozen BK262.out 7
                        have hfz30_8 := blk_frozen BK262.out 8
                        have hfz30_9 := blk_frozen BK262.out 9
                        have hfz30_10 := blk_frozen BK262.out 10
                        have hfz30_11 := blk_frozen BK262.out 11
                        have hfz30_12 := blk_frozen BK262.out 12
                        have hfz30_13 := blk_frozen BK262.out 13
                        have hfz30_14 := blk_frozen BK262.out 14
                        go_wp2
                        go_meet
                        case rel => exact ⟨_, ((a1 == 4)), (by first | rfl | (simp; done) | (simp [*]; done)), H', ⟨by have := HK1.out; have := HJ12.out; have := HJ21.out; first | omega | exact Nat.le_refl _⟩, ⟨by (with_reducible repeat (first | refine blk_drewN ?_ _ | refine blk_drew ?_ | refine blk_alloc ?_ _)); exact BK262.out⟩, ⟨by repeat (first | (with_reducible first | exact HB.out | apply below_alloc | apply pw_below_drewN | apply below_drew1 | refine below_set ?_ GE262.out) | exact HB.out)⟩⟩
                      · rw [if_neg c29] at H
                        have c29b0 : (a0_0 == 4) = false := beq_eq_false_iff_ne.mpr c29
                        have c29b1 : (a0_0 != 4) = true := bne_iff_ne.mpr c29
                        (first | rw [c29b0] | (simp only [i64_w, i32_w]; rw [c29b0]) | skip)
                        have H' := Aside0.mk H
                        clear H
                        have hcz31_0 : wc.cell? ⟨gb262, 0, none⟩ = some (.int .i64 a0_0) := (blk_cell BK262.out 0).trans rfl
                        have hcz31_1 : wc.cell? ⟨gb262, 1, none⟩ = some (.int .i64 a0_1) := (blk_cell BK262.out 1).trans rfl
                        have hcz31_2 : wc.cell? ⟨gb262, 2, none⟩ = some (.int .i64 a0_2) := (blk_cell BK262.out 2).trans rfl
                        have hcz31_3 : wc.cell? ⟨gb262, 3, none⟩ = some (.string a0_3) := (blk_cell BK262.out 3).trans rfl
                        have hcz31_4 : wc.cell? ⟨gb262, 4, none⟩ = some (.int .i64 a0_4) := (blk_cell BK262.out 4).trans rfl
                        have hcz31_5 : wc.cell? ⟨gb262, 5, none⟩ = some (.int .i64 a0_5) := (blk_cell BK262.out 5).trans rfl
                        have hcz31_6 : wc.cell? ⟨gb262, 6, none⟩ = some (.int .i64 a0_6) := (blk_cell BK262.out 6).trans rfl
                        have hcz31_7 : wc.cell? ⟨gb262, 7, none⟩ = some (.int .i64 a0_7) := (blk_cell BK262.out 7).trans rfl
                        have hcz31_8 : wc.cell? ⟨gb262, 8, none⟩ = some (.int .i32 a0_8) := (blk_cell BK262.out 8).trans rfl
                        have hcz31_9 : wc.cell? ⟨gb262, 9, none⟩ = some (.string a0_9) := (blk_cell BK262.out 9).trans rfl
                        have hcz31_10 : wc.cell? ⟨gb262, 10, none⟩ = some (.int .i64 a0_10) := (blk_cell BK262.out 10).trans rfl
                        have hcz31_11 : wc.cell? ⟨gb262, 11, none⟩ = some (.slice A0_11 l0_11.length c0_11) := (blk_cell BK262.out 11).trans rfl
                        have hcz31_12 : wc.cell? ⟨gb262, 12, none⟩ = some (.int .u32 a0_12) := (blk_cell BK262.out 12).trans rfl
                        have hcz31_13 : wc.cell? ⟨gb262, 13, none⟩ = some (.bool a0_13) := (blk_cell BK262.out 13).trans rfl
                        have hcz31_14 : wc.cell? ⟨gb262, 14, none⟩ = some (.bool a0_14) := (blk_cell BK262.out 14).trans rfl
                        have hfz31_0 := blk_frozen BK262.out 0
                        have hfz31_1 := blk_frozen BK262.out 1
                        have hfz31_2 := blk_frozen BK262.out 2
                        have hfz31_3 := blk_frozen BK262.out 3
                        have hfz31_4 := blk_frozen BK262.out 4
                        have hfz31_5 := blk_frozen BK262.out 5
                        have hfz31_6 := blk_frozen BK262.out 6
                        have hfz31_7 := blk_frozen BK262.out 7
                        have hfz31_8 := blk_frozen BK262.out 8
                        have hfz31_9 := blk_frozen BK262.out 9
                        have hfz31_10 := blk_frozen BK262.out 10
                        have hfz31_11 := blk_frozen BK262.out 11
                        have hfz31_12 := blk_frozen BK262.out 12
                        have hfz31_13 := blk_frozen BK262.out 13
                        have hfz31_14 := blk_frozen BK262.out 14
                        go_wp2
                        go_meet
                        case rel => exact ⟨_, (false), (by first | rfl | (simp; done) | (simp [*]; done)), H', ⟨by have := HK1.out; have := HJ12.out; have := HJ21.out; first | omega | exact Nat.le_refl _⟩, ⟨by (with_reducible repeat (first | refine blk_drewN ?_ _ | refine blk_drew ?_ | refine blk_alloc ?_ _)); exact BK262.out⟩, ⟨by repeat (first | (with_reducible first | exact HB.out | apply below_alloc | apply pw_below_drewN | apply below_drew1 | refine below_set ?_ GE262.out) | exact HB.out)⟩⟩
                    case rest =>
                      clear HC28
                      try clear c1
                      try clear c2
                      try clear p2
                      try clear q2
                      try clear hx2
                      try clear p6
                      try clear c8
                      try clear c8b0
                      try clear c9
                      try clear c11
                      try clear c11b0
                      try clear c14
                      try clear c15
                      try clear c16
                      try clear c16b0
                      try clear c18
                      try clear c18b0
                      try clear c21
                      try clear c23
                      try clear c23b0
                      try clear c23b1
                      try clear c26
                      try clear p26
                      try clear q26
                      try clear hx26
                      try clear c27
                      try clear c27b0
                      try clear c29
                      try clear c29b0
                      try clear c29b1
                      try clear hcz17_0 hcz17_1 hcz17_10 hcz17_11 hcz17_12 hcz17_13 hcz17_14 hcz17_2 hcz17_3 hcz17_4 hcz17_5 hcz17_6 hcz17_7 hcz17_8 hcz17_9 hfz17_0 hfz17_1 hfz17_10 hfz17_11 hfz17_12 hfz17_13 hfz17_14 hfz17_2 hfz17_3 hfz17_4 hfz17_5 hfz17_6 hfz17_7 hfz17_8 hfz17_9
                      try clear hcz19_0 hcz19_1 hcz19_10 hcz19_11 hcz19_12 hcz19_13 hcz19_14 hcz19_2 hcz19_3 hcz19_4 hcz19_5 hcz19_6 hcz19_7 hcz19_8 hcz19_9 hfz19_0 hfz19_1 hfz19_10 hfz19_11 hfz19_12 hfz19_13 hfz19_14 hfz19_2 hfz19_3 hfz19_4 hfz19_5 hfz19_6 hfz19_7 hfz19_8 hfz19_9
                      try clear hcz20_0 hcz20_1 hcz20_10 hcz20_11 hcz20_12 hcz20_13 hcz20_14 hcz20_2 hcz20_3 hcz20_4 hcz20_5 hcz20_6 hcz20_7 hcz20_8 hcz20_9 hfz20_0 hfz20_1 hfz20_10 hfz20_11 hfz20_12 hfz20_13 hfz20_14 hfz20_2 hfz20_3 hfz20_4 hfz20_5 hfz20_6 hfz20_7 hfz20_8 hfz20_9
                      try clear hcz24_0 hcz24_1 hcz24_10 hcz24_11 hcz24_12 hcz24_13 hcz24_14 hcz24_2 hcz24_3 hcz24_4 hcz24_5 hcz24_6 hcz24_7 hcz24_8 hcz24_9 hfz24_0 hfz24_1 hfz24_10 hfz24_11 hfz24_12 hfz24_13 hfz24_14 hfz24_2 hfz24_3 hfz24_4 hfz24_5 hfz24_6 hfz24_7 hfz24_8 hfz24_9
                      try clear hcz25_0 hcz25_1 hcz25_10 hcz25_11 hcz25_12 hcz25_13 hcz25_14 hcz25_2 hcz25_3 hcz25_4 hcz25_5 hcz25_6 hcz25_7 hcz25_8 hcz25_9 hfz25_0 hfz25_1 hfz25_10 hfz25_11 hfz25_12 hfz25_13 hfz25_14 hfz25_2 hfz25_3 hfz25_4 hfz25_5 hfz25_6 hfz25_7 hfz25_8 hfz25_9
                      try clear hcz30_0 hcz30_1 hcz30_10 hcz30_11 hcz30_12 hcz30_13 hcz30_14 hcz30_2 hcz30_3 hcz30_4 hcz30_5 hcz30_6 hcz30_7 hcz30_8 hcz30_9 hfz30_0 hfz30_1 hfz30_10 hfz30_11 hfz30_12 hfz30_13 hfz30_14 hfz30_2 hfz30_3 hfz30_4 hfz30_5 hfz30_6 hfz30_7 hfz30_8 hfz30_9
                      try clear hcz31_0 hcz31_1 hcz31_10 hcz31_11 hcz31_12 hcz31_13 hcz31_14 hcz31_2 hcz31_3 hcz31_4 hcz31_5 hcz31_6 hcz31_7 hcz31_8 hcz31_9 hfz31_0 hfz31_1 hfz31_10 hfz31_11 hfz31_12 hfz31_13 hfz31_14 hfz31_2 hfz31_3 hfz31_4 hfz31_5 hfz31_6 hfz31_7 hfz31_8 hfz31_9
                      try clear hcz6_0 hcz6_1 hcz6_10 hcz6_11 hcz6_12 hcz6_13 hcz6_14 hcz6_2 hcz6_3 hcz6_4 hcz6_5 hcz6_6 hcz6_7 hcz6_8 hcz6_9 hfz6_0 hfz6_1 hfz6_10 hfz6_11 hfz6_12 hfz6_13 hfz6_14 hfz6_2 hfz6_3 hfz6_4 hfz6_5 hfz6_6 hfz6_7 hfz6_8 hfz6_9
                      try clear hx266_0
                      try clear p2
                      try clear p266
                      try clear p6
                      try clear q2
                      try clear q266
                      obtain ⟨kq, x57_27, rfl, HA, HJ27, BK262, HB⟩ := hcut
                      cases kq with
                      | zero => exact absurd HA.out (by simp [typecaseref18_Reaches.j3])
                      | succ kj27 =>
                        have H := HA.out
                        clear HA
                        simp only [typecaseref18_Reaches.j3] at H
                        by_cases c32 : x57_27 = true
                        · subst c32
                          have H1 : (if (wrap64 (a2)) ≥ (-4096) then (some (decide ((wrap64 (a2)) < 4096))) else (some false)) = some r := by rw [if_pos rfl] at H; exact H
                          clear H
                          have H := H1
                          clear H1
                          by_cases c33 : (wrap64 (a2)) ≥ (-4096)
                          · rw [if_pos c33] at H
                            have c33b0 : decide ((-4096) ≤ (wrap64 (a2))) = true := decide_eq_true c33
                            clear c33
                            obtain rfl := Option.some.inj H
                            go_wp2
                            go_ret
                            exact ⟨by first | rfl | (simp [errW_none, errW_some] <;> rfl) | (simp [*, errW_none, errW_some] <;> rfl), by repeat (first | (with_reducible first | exact HB.out | apply below_alloc | apply pw_below_drewN | apply below_drew1 | refine below_set ?_ GE262.out) | exact HB.out)⟩
                          · rw [if_neg c33] at H
                            have c33b0 : decide ((-4096) ≤ (wrap64 (a2))) = false := decide_eq_false c33
                            clear c33
                            obtain rfl := Option.some.inj H
                            go_wp2
                            go_ret
                            exact ⟨by first | rfl | (simp [errW_none, errW_some] <;> rfl) | (simp [*, errW_none, errW_some] <;> rfl), by repeat (first | (with_reducible first | exact HB.out | apply below_alloc | apply pw_below_drewN | apply below_drew1 | refine below_set ?_ GE262.out) | exact HB.out)⟩
                        · replace c32 := Bool.eq_false_iff.mpr c32
                          subst c32
                          have H1 : (if a0_0 = 4 then (if (wrap64 ((wrap64 (a2)) - 4)) ≥ (wrap64 (-1048576)) then (some (decide ((wrap64 ((wrap64 (a2)) - 4)) < 1048576))) else (some false)) else (if a1 = 2 then (if (wrap64 (a2)) ≥ (-2048) then (some (decide ((wrap64 (a2)) < 2048))) else (some false)) else (if a1 = 8 then (some true) else (if (wrap64 (a2)) ≥ (wrap64 (-1048576)) then (some (decide ((wrap64 (a2)) < 1048576))) else (some false))))) = some r := by rw [if_neg (show ¬ (false = true) by decide)] at H; exact H
                          clear H
                          have H := H1
                          clear H1
                          by_cases c34 : a0_0 = 4
                          · rw [if_pos c34] at H
                            have c34b0 : (a0_0 == 4) = true := beq_iff_eq.mpr c34
                            have c34b1 : (a0_0 != 4) = false := bne_eq_false_iff_eq.mpr c34
                            clear c34
                            by_cases c35 : (wrap64 ((wrap64 (a2)) - 4)) ≥ (wrap64 (-1048576))
                            · rw [if_pos c35] at H
                              have c35b0 : decide ((-1048576) ≤ (wrap64 ((wrap64 (a2)) - 4))) = true := decide_eq_true (by have z_ := c35; rw [show wrap64 (-1048576) = -1048576 from by unfold wrap64; omega] at z_; exact z_)
                              clear c35
                              obtain rfl := Option.some.inj H
                              have hcz36_0 : wc.cell? ⟨gb262, 0, none⟩ = some (.int .i64 a0_0) := (blk_cell BK262.out 0).trans rfl
                              have hcz36_1 : wc.cell? ⟨gb262, 1, none⟩ = some (.int .i64 a0_1) := (blk_cell BK262.out 1).trans rfl
                              have hcz36_2 : wc.cell? ⟨gb262, 2, none⟩ = some (.int .i64 a0_2) := (blk_cell BK262.out 2).trans rfl
                              have hcz36_3 : wc.cell? ⟨gb262, 3, none⟩ = some (.string a0_3) := (blk_cell BK262.out 3).trans rfl
                              have hcz36_4 : wc.cell? ⟨gb262, 4, none⟩ = some (.int .i64 a0_4) := (blk_cell BK262.out 4).trans rfl
                              have hcz36_5 : wc.cell? ⟨gb262, 5, none⟩ = some (.int .i64 a0_5) := (blk_cell BK262.out 5).trans rfl
                              have hcz36_6 : wc.cell? ⟨gb262, 6, none⟩ = some (.int .i64 a0_6) := (blk_cell BK262.out 6).trans rfl
                              have hcz36_7 : wc.cell? ⟨gb262, 7, none⟩ = some (.int .i64 a0_7) := (blk_cell BK262.out 7).trans rfl
                              have hcz36_8 : wc.cell? ⟨gb262, 8, none⟩ = some (.int .i32 a0_8) := (blk_cell BK262.out 8).trans rfl
                              have hcz36_9 : wc.cell? ⟨gb262, 9, none⟩ = some (.string a0_9) := (blk_cell BK262.out 9).trans rfl
                              have hcz36_10 : wc.cell? ⟨gb262, 10, none⟩ = some (.int .i64 a0_10) := (blk_cell BK262.out 10).trans rfl
                              have hcz36_11 : wc.cell? ⟨gb262, 11, none⟩ = some (.slice A0_11 l0_11.length c0_11) := (blk_cell BK262.out 11).trans rfl
                              have hcz36_12 : wc.cell? ⟨gb262, 12, none⟩ = some (.int .u32 a0_12) := (blk_cell BK262.out 12).trans rfl
                              have hcz36_13 : wc.cell? ⟨gb262, 13, none⟩ = some (.bool a0_13) := (blk_cell BK262.out 13).trans rfl
                              have hcz36_14 : wc.cell? ⟨gb262, 14, none⟩ = some (.bool a0_14) := (blk_cell BK262.out 14).trans rfl
                              have hfz36_0 := blk_frozen BK262.out 0
                              have hfz36_1 := blk_frozen BK262.out 1
                              have hfz36_2 := blk_frozen BK262.out 2
                              have hfz36_3 := blk_frozen BK262.out 3
                              have hfz36_4 := blk_frozen BK262.out 4
                              have hfz36_5 := blk_frozen BK262.out 5
                              have hfz36_6 := blk_frozen BK262.out 6
                              have hfz36_7 := blk_frozen BK262.out 7
                              have hfz36_8 := blk_frozen BK262.out 8
                              have hfz36_9 := blk_frozen BK262.out 9
                              have hfz36_10 := blk_frozen BK262.out 10
                              have hfz36_11 := blk_frozen BK262.out 11
                              have hfz36_12 := blk_frozen BK262.out 12
                              have hfz36_13 := blk_frozen BK262.out 13
                              have hfz36_14 := blk_frozen BK262.out 14
                              go_wp2
                              go_ret
                              exact ⟨by first | rfl | (simp [errW_none, errW_some] <;> rfl) | (simp [*, errW_none, errW_some] <;> rfl), by repeat (first | (with_reducible first | exact HB.out | apply below_alloc | apply pw_below_drewN | apply below_drew1 | refine below_set ?_ GE262.out) | exact HB.out)⟩
                            · rw [if_neg c35] at H
                              have c35b0 : decide ((-1048576) ≤ (wrap64 ((wrap64 (a2)) - 4))) = false := decide_eq_false (by have z_ := c35; rw [show wrap64 (-1048576) = -1048576 from by unfold wrap64; omega] at z_; exact z_)
                              clear c35
                              obtain rfl := Option.some.inj H
                              have hcz37_0 : wc.cell? ⟨gb262, 0, none⟩ = some (.int .i64 a0_0) := (blk_cell BK262.out 0).trans rfl
                              have hcz37_1 : wc.cell? ⟨gb262, 1, none⟩ = some (.int .i64 a0_1) := (blk_cell BK262.out 1).trans rfl
                              have hcz37_2 : wc.cell? ⟨gb262, 2, none⟩ = some (.int .i64 a0_2) := (blk_cell BK262.out 2).trans rfl
                              have hcz37_3 : wc.cell? ⟨gb262, 3, none⟩ = some (.string a0_3) := (blk_cell BK262.out 3).trans rfl
                              have hcz37_4 : wc.cell? ⟨gb262, 4, none⟩ = some (.int .i64 a0_4) := (blk_cell BK262.out 4).trans rfl
                              have hcz37_5 : wc.cell? ⟨gb262, 5, none⟩ = some (.int .i64 a0_5) := (blk_cell BK262.out 5).trans rfl
                              have hcz37_6 : wc.cell? ⟨gb262, 6, none⟩ = some (.int .i64 a0_6) := (blk_cell BK262.out 6).trans rfl
                              have hcz37_7 : wc.cell? ⟨gb262, 7, none⟩ = some (.int .i64 a0_7) := (blk_cell BK262.out 7).trans rfl
                              have hcz37_8 : wc.cell? ⟨gb262, 8, none⟩ = some (.int .i32 a0_8) := (blk_cell BK262.out 8).trans rfl
                              have hcz37_9 : wc.cell? ⟨gb262, 9, none⟩ = some (.string a0_9) := (blk_cell BK262.out 9).trans rfl
                              have hcz37_10 : wc.cell? ⟨gb262, 10, none⟩ = some (.int .i64 a0_10) := (blk_cell BK262.out 10).trans rfl
                              have hcz37_11 : wc.cell? ⟨gb262, 11, none⟩ = some (.slice A0_11 l0_11.length c0_11) := (blk_cell BK262.out 11).trans rfl
                              have hcz37_12 : wc.cell? ⟨gb262, 12, none⟩ = some (.int .u32 a0_12) := (blk_cell BK262.out 12).trans rfl
                              have hcz37_13 : wc.cell? ⟨gb262, 13, none⟩ = some (.bool a0_13) := (blk_cell BK262.out 13).trans rfl
                              have hcz37_14 : wc.cell? ⟨gb262, 14, none⟩ = some (.bool a0_14) := (blk_cell BK262.out 14).trans rfl
                              have hfz37_0 := blk_frozen BK262.out 0
                              have hfz37_1 := blk_frozen BK262.out 1
                              have hfz37_2 := blk_frozen BK262.out 2
                              have hfz37_3 := blk_frozen BK262.out 3
                              have hfz37_4 := blk_frozen BK262.out 4
                              have hfz37_5 := blk_frozen BK262.out 5
                              have hfz37_6 := blk_frozen BK262.out 6
                              have hfz37_7 := blk_frozen BK262.out 7
                              have hfz37_8 := blk_frozen BK262.out 8
                              have hfz37_9 := blk_frozen BK262.out 9
                              have hfz37_10 := blk_frozen BK262.out 10
                              have hfz37_11 := blk_frozen BK262.out 11
                              have hfz37_12 := blk_frozen BK262.out 12
                              have hfz37_13 := blk_frozen BK262.out 13
                              have hfz37_14 := blk_frozen BK262.out 14
                              go_wp2
                              go_ret
                              exact ⟨by first | rfl | (simp [errW_none, errW_some] <;> rfl) | (simp [*, errW_none, errW_some] <;> rfl), by repeat (first | (with_reducible first | exact HB.out | apply below_alloc | apply pw_below_drewN | apply below_drew1 | refine below_set ?_ GE262.out) | exact HB.out)⟩
                          · rw [if_neg c34] at H
                            have c34b0 : (a0_0 == 4) = false := beq_eq_false_iff_ne.mpr c34
                            have c34b1 : (a0_0 != 4) = true := bne_iff_ne.mpr c34
                            by_cases c38 : a1 = 2
                            · rw [if_pos c38] at H
                              have c38b0 : (a1 == 2) = true := beq_iff_eq.mpr c38
                              have c38b1 : (a1 != 2) = false := bne_eq_false_iff_eq.mpr c38
                              clear c38
                              by_cases c39 : (wrap64 (a2)) ≥ (-2048)
                              · rw [if_pos c39] at H
                                have c39b0 : decide ((-2048) ≤ (wrap64 (a2))) = true := decide_eq_true c39
                                clear c39
                                obtain rfl := Option.some.inj H
                                have hcz40_0 : wc.cell? ⟨gb262, 0, none⟩ = some (.int .i64 a0_0) := (blk_cell BK262.out 0).trans rfl
                                have hcz40_1 : wc.cell? ⟨gb262, 1, none⟩ = some (.int .i64 a0_1) := (blk_cell BK262.out 1).trans rfl
                                have hcz40_2 : wc.cell? ⟨gb262, 2, none⟩ = some (.int .i64 a0_2) := (blk_cell BK262.out 2).trans rfl
                                have hcz40_3 : wc.cell? ⟨gb262, 3, none⟩ = some (.string a0_3) := (blk_cell BK262.out 3).trans rfl
                                have hcz40_4 : wc.cell? ⟨gb262, 4, none⟩ = some (.int .i64 a0_4) := (blk_cell BK262.out 4).trans rfl
                                have hcz40_5 : wc.cell? ⟨gb262, 5, none⟩ = some (.int .i64 a0_5) := (blk_cell BK262.out 5).trans rfl
                                have hcz40_6 : wc.cell? ⟨gb262, 6, none⟩ = some (.int .i64 a0_6) := (blk_cell BK262.out 6).trans rfl
                                have hcz40_7 : wc.cell? ⟨gb262, 7, none⟩ = some (.int .i64 a0_7) := (blk_cell BK262.out 7).trans rfl
                                have hcz40_8 : wc.cell? ⟨gb262, 8, none⟩ = some (.int .i32 a0_8) := (blk_cell BK262.out 8).trans rfl
                                have hcz40_9 : wc.cell? ⟨gb262, 9, none⟩ = some (.string a0_9) := (blk_cell BK262.out 9).trans rfl
                                have hcz40_10 : wc.cell? ⟨gb262, 10, none⟩ = some (.int .i64 a0_10) := (blk_cell BK262.out 10).trans rfl
                                have hcz40_11 : wc.cell? ⟨gb262, 11, none⟩ = some (.slice A0_11 l0_11.length c0_11) := (blk_cell BK262.out 11).trans rfl
                                have hcz40_12 : wc.cell? ⟨gb262, 12, none⟩ = some (.int .u32 a0_12) := (blk_cell BK262.out 12).trans rfl
                                have hcz40_13 : wc.cell? ⟨gb262, 13, none⟩ = some (.bool a0_13) := (blk_cell BK262.out 13).trans rfl
                                have hcz40_14 : wc.cell? ⟨gb262, 14, none⟩ = some (.bool a0_14) := (blk_cell BK262.out 14).trans rfl
                                have hfz40_0 := blk_frozen BK262.out 0
                                have hfz40_1 := blk_frozen BK262.out 1
                                have hfz40_2 := blk_frozen BK262.out 2
                                have hfz40_3 := blk_frozen BK262.out 3
                                have hfz40_4 := blk_frozen BK262.out 4
                                have hfz40_5 := blk_frozen BK262.out 5
                                have hfz40_6 := blk_frozen BK262.out 6
                                have hfz40_7 := blk_frozen BK262.out 7
                                have hfz40_8 := blk_frozen BK262.out 8
                                have hfz40_9 := blk_frozen BK262.out 9
                                have hfz40_10 := blk_frozen BK262.out 10
                                have hfz40_11 := blk_frozen BK262.out 11
                                have hfz40_12 := blk_frozen BK262.out 12
                                have hfz40_13 := blk_frozen BK262.out 13
                                have hfz40_14 := blk_frozen BK262.out 14
                                go_wp2
                                go_ret
                                exact ⟨by first | rfl | (simp [errW_none, errW_some] <;> rfl) | (simp [*, errW_none, errW_some] <;> rfl), by repeat (first | (with_reducible first | exact HB.out | apply below_alloc | apply pw_below_drewN | apply below_drew1 | refine below_set ?_ GE262.out) | exact HB.out)⟩
                              · rw [if_neg c39] at H
                                have c39b0 : decide ((-2048) ≤ (wrap64 (a2))) = false := decide_eq_false c39
                                clear c39
                                obtain rfl := Option.some.inj H
                                have hcz41_0 : wc.cell? ⟨gb262, 0, none⟩ = some (.int .i64 a0_0) := (blk_cell BK262.out 0).trans rfl
                                have hcz41_1 : wc.cell? ⟨gb262, 1, none⟩ = some (.int .i64 a0_1) := (blk_cell BK262.out 1).trans rfl
                                have hcz41_2 : wc.cell? ⟨gb262, 2, none⟩ = some (.int .i64 a0_2) := (blk_cell BK262.out 2).trans rfl
                                have hcz41_3 : wc.cell? ⟨gb262, 3, none⟩ = some (.string a0_3) := (blk_cell BK262.out 3).trans rfl
                                have hcz41_4 : wc.cell? ⟨gb262, 4, none⟩ = some (.int .i64 a0_4) := (blk_cell BK262.out 4).trans rfl
                                have hcz41_5 : wc.cell? ⟨gb262, 5, none⟩ = some (.int .i64 a0_5) := (blk_cell BK262.out 5).trans rfl
                                have hcz41_6 : wc.cell? ⟨gb262, 6, none⟩ = some (.int .i64 a0_6) := (blk_cell BK262.out 6).trans rfl
                                have hcz41_7 : wc.cell? ⟨gb262, 7, none⟩ = some (.int .i64 a0_7) := (blk_cell BK262.out 7).trans rfl
                                have hcz41_8 : wc.cell? ⟨gb262, 8, none⟩ = some (.int .i32 a0_8) := (blk_cell BK262.out 8).trans rfl
                                have hcz41_9 : wc.cell? ⟨gb262, 9, none⟩ = some (.string a0_9) := (blk_cell BK262.out 9).trans rfl
                                have hcz41_10 : wc.cell? ⟨gb262, 10, none⟩ = some (.int .i64 a0_10) := (blk_cell BK262.out 10).trans rfl
                                have hcz41_11 : wc.cell? ⟨gb262, 11, none⟩ = some (.slice A0_11 l0_11.length c0_11) := (blk_cell BK262.out 11).trans rfl
                                have hcz41_12 : wc.cell? ⟨gb262, 12, none⟩ = some (.int .u32 a0_12) := (blk_cell BK262.out 12).trans rfl
                                have hcz41_13 : wc.cell? ⟨gb262, 13, none⟩ = some (.bool a0_13) := (blk_cell BK262.out 13).trans rfl
                                have hcz41_14 : wc.cell? ⟨gb262, 14, none⟩ = some (.bool a0_14) := (blk_cell BK262.out 14).trans rfl
                                have hfz41_0 := blk_frozen BK262.out 0
                                have hfz41_1 := blk_frozen BK262.out 1
                                have hfz41_2 := blk_frozen BK262.out 2
                                have hfz41_3 := blk_frozen BK262.out 3
                                have hfz41_4 := blk_frozen BK262.out 4
                                have hfz41_5 := blk_frozen BK262.out 5
                                have hfz41_6 := blk_frozen BK262.out 6
                                have hfz41_7 := blk_frozen BK262.out 7
                                have hfz41_8 := blk_frozen BK262.out 8
                                have hfz41_9 := blk_frozen BK262.out 9
                                have hfz41_10 := blk_frozen BK262.out 10
                                have hfz41_11 := blk_frozen BK262.out 11
                                have hfz41_12 := blk_frozen BK262.out 12
                                have hfz41_13 := blk_frozen BK262.out 13
                                have hfz41_14 := blk_frozen BK262.out 14
                                go_wp2
                                go_ret
                                exact ⟨by first | rfl | (simp [errW_none, errW_some] <;> rfl) | (simp [*, errW_none, errW_some] <;> rfl), by repeat (first | (with_reducible first | exact HB.out | apply below_alloc | apply pw_below_drewN | apply below_drew1 | refine below_set ?_ GE262.out) | exact HB.out)⟩
                            · rw [if_neg c38] at H
                              have c38b0 : (a1 == 2) = false := beq_eq_false_iff_ne.mpr c38
                              have c38b1 : (a1 != 2) = true := bne_iff_ne.mpr c38
                              by_cases c42 : a1 = 8
                              · rw [if_pos c42] at H
                                have c42b0 : (a1 == 8) = true := beq_iff_eq.mpr c42
                                have c42b1 : (a1 != 8) = false := bne_eq_false_iff_eq.mpr c42
                                clear c42
                                obtain rfl := Option.some.inj H
                                have hcz43_0 : wc.cell? ⟨gb262, 0, none⟩ = some (.int .i64 a0_0) := (blk_cell BK262.out 0).trans rfl
                                have hcz43_1 : wc.cell? ⟨gb262, 1, none⟩ = some (.int .i64 a0_1) := (blk_cell BK262.out 1).trans rfl
                                have hcz43_2 : wc.cell? ⟨gb262, 2, none⟩ = some (.int .i64 a0_2) := (blk_cell BK262.out 2).trans rfl
                                have hcz43_3 : wc.cell? ⟨gb262, 3, none⟩ = some (.string a0_3) := (blk_cell BK262.out 3).trans rfl
                                have hcz43_4 : wc.cell? ⟨gb262, 4, none⟩ = some (.int .i64 a0_4) := (blk_cell BK262.out 4).trans rfl
                                have hcz43_5 : wc.cell? ⟨gb262, 5, none⟩ = some (.int .i64 a0_5) := (blk_cell BK262.out 5).trans rfl
                                have hcz43_6 : wc.cell? ⟨gb262, 6, none⟩ = some (.int .i64 a0_6) := (blk_cell BK262.out 6).trans rfl
                                have hcz43_7 : wc.cell? ⟨gb262, 7, none⟩ = some (.int .i64 a0_7) := (blk_cell BK262.out 7).trans rfl
                                have hcz43_8 : wc.cell? ⟨gb262, 8, none⟩ = some (.int .i32 a0_8) := (blk_cell BK262.out 8).trans rfl
                                have hcz43_9 : wc.cell? ⟨gb262, 9, none⟩ = some (.string a0_9) := (blk_cell BK262.out 9).trans rfl
                                have hcz43_10 : wc.cell? ⟨gb262, 10, none⟩ = some (.int .i64 a0_10) := (blk_cell BK262.out 10).trans rfl
                                have hcz43_11 : wc.cell? ⟨gb262, 11, none⟩ = some (.slice A0_11 l0_11.length c0_11) := (blk_cell BK262.out 11).trans rfl
                                have hcz43_12 : wc.cell? ⟨gb262, 12, none⟩ = some (.int .u32 a0_12) := (blk_cell BK262.out 12).trans rfl
                                have hcz43_13 : wc.cell? ⟨gb262, 13, none⟩ = some (.bool a0_13) := (blk_cell BK262.out 13).trans rfl
                                have hcz43_14 : wc.cell? ⟨gb262, 14, none⟩ = some (.bool a0_14) := (blk_cell BK262.out 14).trans rfl
                                have hfz43_0 := blk_frozen BK262.out 0
                                have hfz43_1 := blk_frozen BK262.out 1
                                have hfz43_2 := blk_frozen BK262.out 2
                                have hfz43_3 := blk_frozen BK262.out 3
                                have hfz43_4 := blk_frozen BK262.out 4
                                have hfz43_5 := blk_frozen BK262.out 5
                                have hfz43_6 := blk_frozen BK262.out 6
                                have hfz43_7 := blk_frozen BK262.out 7
                                have hfz43_8 := blk_frozen BK262.out 8
                                have hfz43_9 := blk_frozen BK262.out 9
                                have hfz43_10 := blk_frozen BK262.out 10
                                have hfz43_11 := blk_frozen BK262.out 11
                                have hfz43_12 := blk_frozen BK262.out 12
                                have hfz43_13 := blk_frozen BK262.out 13
                                have hfz43_14 := blk_frozen BK262.out 14
                                go_wp2
                                go_ret
                                exact ⟨by first | rfl | (simp [errW_none, errW_some] <;> rfl) | (simp [*, errW_none, errW_some] <;> rfl), by repeat (first | (with_reducible first | exact HB.out | apply below_alloc | apply pw_below_drewN | apply below_drew1 | refine below_set ?_ GE262.out) | exact HB.out)⟩
                              · rw [if_neg c42] at H
                                have c42b0 : (a1 == 8) = false := beq_eq_false_iff_ne.mpr c42
                                have c42b1 : (a1 != 8) = true := bne_iff_ne.mpr c42
                                by_cases c44 : (wrap64 (a2)) ≥ (wrap64 (-1048576))
                                · rw [if_pos c44] at H
                                  have c44b0 : decide ((-1048576) ≤ (wrap64 (a2))) = true := decide_eq_true (by have z_ := c44; rw [show wrap64 (-1048576) = -1048576 from by unfold wrap64; omega] at z_; exact z_)
                                  clear c44
                                  obtain rfl := Option.some.inj H
                                  have hcz45_0 : wc.cell? ⟨gb262, 0, none⟩ = some (.int .i64 a0_0) := (blk_cell BK262.out 0).trans rfl
                                  have hcz45_1 : wc.cell? ⟨gb262, 1, none⟩ = some (.int .i64 a0_1) := (blk_cell BK262.out 1).trans rfl
                                  have hcz45_2 : wc.cell? ⟨gb262, 2, none⟩ = some (.int .i64 a0_2) := (blk_cell BK262.out 2).trans rfl
                                  have hcz45_3 : wc.cell? ⟨gb262, 3, none⟩ = some (.string a0_3) := (blk_cell BK262.out 3).trans rfl
                                  have hcz45_4 : wc.cell? ⟨gb262, 4, none⟩ = some (.int .i64 a0_4) := (blk_cell BK262.out 4).trans rfl
                                  have hcz45_5 : wc.cell? ⟨gb262, 5, none⟩ = some (.int .i64 a0_5) := (blk_cell BK262.out 5).trans rfl
                                  have hcz45_6 : wc.cell? ⟨gb262, 6, none⟩ = some (.int .i64 a0_6) := (blk_cell BK262.out 6).trans rfl
                                  have hcz45_7 : wc.cell? ⟨gb262, 7, none⟩ = some (.int .i64 a0_7) := (blk_cell BK262.out 7).trans rfl
                                  have hcz45_8 : wc.cell? ⟨gb262, 8, none⟩ = some (.int .i32 a0_8) := (blk_cell BK262.out 8).trans rfl
                                  have hcz45_9 : wc.cell? ⟨gb262, 9, none⟩ = some (.string a0_9) := (blk_cell BK262.out 9).trans rfl
                                  have hcz45_10 : wc.cell? ⟨gb262, 10, none⟩ = some (.int .i64 a0_10) := (blk_cell BK262.out 10).trans rfl
                                  have hcz45_11 : wc.cell? ⟨gb262, 11, none⟩ = some (.slice A0_11 l0_11.length c0_11) := (blk_cell BK262.out 11).trans rfl
                                  have hcz45_12 : wc.cell? ⟨gb262, 12, none⟩ = some (.int .u32 a0_12) := (blk_cell BK262.out 12).trans rfl
                                  have hcz45_13 : wc.cell? ⟨gb262, 13, none⟩ = some (.bool a0_13) := (blk_cell BK262.out 13).trans rfl
                                  have hcz45_14 : wc.cell? ⟨gb262, 14, none⟩ = some (.bool a0_14) := (blk_cell BK262.out 14).trans rfl
                                  have hfz45_0 := blk_frozen BK262.out 0
                                  have hfz45_1 := blk_frozen BK262.out 1
                                  have hfz45_2 := blk_frozen BK262.out 2
                                  have hfz45_3 := blk_frozen BK262.out 3
                                  have hfz45_4 := blk_frozen BK262.out 4
                                  have hfz45_5 := blk_frozen BK262.out 5
                                  have hfz45_6 := blk_frozen BK262.out 6
                                  have hfz45_7 := blk_frozen BK262.out 7
                                  have hfz45_8 := blk_frozen BK262.out 8
                                  have hfz45_9 := blk_frozen BK262.out 9
                                  have hfz45_10 := blk_frozen BK262.out 10
                                  have hfz45_11 := blk_frozen BK262.out 11
                                  have hfz45_12 := blk_frozen BK262.out 12
                                  have hfz45_13 := blk_frozen BK262.out 13
                                  have hfz45_14 := blk_frozen BK262.out 14
                                  go_wp2
                                  go_ret
                                  exact ⟨by first | rfl | (simp [errW_none, errW_some] <;> rfl) | (simp [*, errW_none, errW_some] <;> rfl), by repeat (first | (with_reducible first | exact HB.out | apply below_alloc | apply pw_below_drewN | apply below_drew1 | refine below_set ?_ GE262.out) | exact HB.out)⟩
                                · rw [if_neg c44] at H
                                  have c44b0 : decide ((-1048576) ≤ (wrap64 (a2))) = false := decide_eq_false (by have z_ := c44; rw [show wrap64 (-1048576) = -1048576 from by unfold wrap64; omega] at z_; exact z_)
                                  clear c44
                                  obtain rfl := Option.some.inj H
                                  have hcz46_0 : wc.cell? ⟨gb262, 0, none⟩ = some (.int .i64 a0_0) := (blk_cell BK262.out 0).trans rfl
                                  have hcz46_1 : wc.cell? ⟨gb262, 1, none⟩ = some (.int .i64 a0_1) := (blk_cell BK262.out 1).trans rfl
                                  have hcz46_2 : wc.cell? ⟨gb262, 2, none⟩ = some (.int .i64 a0_2) := (blk_cell BK262.out 2).trans rfl
                                  have hcz46_3 : wc.cell? ⟨gb262, 3, none⟩ = some (.string a0_3) := (blk_cell BK262.out 3).trans rfl
                                  have hcz46_4 : wc.cell? ⟨gb262, 4, none⟩ = some (.int .i64 a0_4) := (blk_cell BK262.out 4).trans rfl
                                  have hcz46_5 : wc.cell? ⟨gb262, 5, none⟩ = some (.int .i64 a0_5) := (blk_cell BK262.out 5).trans rfl
                                  have hcz46_6 : wc.cell? ⟨gb262, 6, none⟩ = some (.int .i64 a0_6) := (blk_cell BK262.out 6).trans rfl
                                  have hcz46_7 : wc.cell? ⟨gb262, 7, none⟩ = some (.int .i64 a0_7) := (blk_cell BK262.out 7).trans rfl
                                  have hcz46_8 : wc.cell? ⟨gb262, 8, none⟩ = some (.int .i32 a0_8) := (blk_cell BK262.out 8).trans rfl
                                  have hcz46_9 : wc.cell? ⟨gb262, 9, none⟩ = some (.string a0_9) := (blk_cell BK262.out 9).trans rfl
                                  have hcz46_10 : wc.cell? ⟨gb262, 10, none⟩ = some (.int .i64 a0_10) := (blk_cell BK262.out 10).trans rfl
                                  have hcz46_11 : wc.cell? ⟨gb262, 11, none⟩ = some (.slice A0_11 l0_11.length c0_11) := (blk_cell BK262.out 11).trans rfl
                                  have hcz46_12 : wc.cell? ⟨gb262, 12, none⟩ = some (.int .u32 a0_12) := (blk_cell BK262.out 12).trans rfl
                                  have hcz46_13 : wc.cell? ⟨gb262, 13, none⟩ = some (.bool a0_13) := (blk_cell BK262.out 13).trans rfl
                                  have hcz46_14 : wc.cell? ⟨gb262, 14, none⟩ = some (.bool a0_14) := (blk_cell BK262.out 14).trans rfl
                                  have hfz46_0 := blk_frozen BK262.out 0
                                  have hfz46_1 := blk_frozen BK262.out 1
                                  have hfz46_2 := blk_frozen BK262.out 2
                                  have hfz46_3 := blk_frozen BK262.out 3
                                  have hfz46_4 := blk_frozen BK262.out 4
                                  have hfz46_5 := blk_frozen BK262.out 5
                                  have hfz46_6 := blk_frozen BK262.out 6
                                  have hfz46_7 := blk_frozen BK262.out 7
                                  have hfz46_8 := blk_frozen BK262.out 8
                                  have hfz46_9 := blk_frozen BK262.out 9
                                  have hfz46_10 := blk_frozen BK262.out 10
                                  have hfz46_11 := blk_frozen BK262.out 11
                                  have hfz46_12 := blk_frozen BK262.out 12
                                  have hfz46_13 := blk_frozen BK262.out 13
                                  have hfz46_14 := blk_frozen BK262.out 14
                                  go_wp2
                                  go_ret
                                  exact ⟨by first | rfl | (simp [errW_none, errW_some] <;> rfl) | (simp [*, errW_none, errW_some] <;> rfl), by repeat (first | (with_reducible first | exact HB.out | apply below_alloc | apply pw_below_drewN | apply below_drew1 | refine below_set ?_ GE262.out) | exact HB.out)⟩

end Go.Proofs.Ytbpihhggeakhoaa.PAll
