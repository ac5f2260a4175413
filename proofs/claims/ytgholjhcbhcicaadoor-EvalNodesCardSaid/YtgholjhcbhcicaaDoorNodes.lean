/- EvalNodes: the walk. -/
import Derived.Test.YtgholjhcbhcicaaDoorNodesPure
import Derived.Test.YtgholjhcbhcicaaDoorEarly
import Derived.Deep.RegionHeld3
namespace Go.Proofs.YtgholjhcbhcicaaDoor.PAll
open Go.RowKit Go.Proofs.YtgholjhcbhcicaaDoorW.PrintWords Go.Proofs.YtgholjhcbhcicaaDoorW.PrintLast Go.Proofs.YtgholjhcbhcicaaDoorW.PrintMore Go.Proofs.YtgholjhcbhcicaaDoor.Errs Go.Maps
set_option linter.unusedVariables false
set_option linter.unusedSimpArgs false
theorem refEnd_fault (v c : Int) (f : Option (Int × Int × Int)) : faultOf f = .agg #[.int .i64 (refEnd (v, c, f)).2.2.1, .int .i64 (refEnd (v, c, f)).2.2.2.1, .int .i64 (refEnd (v, c, f)).2.2.2.2] := by
  cases f with
  | none => rfl
  | some f => rfl
theorem valueT_zero (l : List S47) (syms : List S52) (place : Int) (early : Bool) : (valueT l syms place early).2.2 ≠ none → (valueT l syms place early).1 = 0 ∧ (valueT l syms place early).2.1 = 0 := by
  rw [valueT_fin]
  unfold finT
  generalize runT syms place early l [] = r
  obtain ⟨left, f⟩ := r
  cases f with
  | some f => exact fun _ => ⟨rfl, rfl⟩
  | none =>
    by_cases h1 : left.length = 1
    · simp [h1]
    · simp [h1]
theorem eqFault (d : Nat) (w : World) (x0 y0 x1 y1 x2 y2 : Int) : (Op.equalIn (d + 2) 29 (.agg #[.int .i64 x0, .int .i64 x1, .int .i64 x2]) (.agg #[.int .i64 y0, .int .i64 y1, .int .i64 y2])).run Tryd.prog w = .ok (x0 == y0 && (x1 == y1 && (x2 == y2))) w := by
  refine eqA_of Tryd.underlying29 (by kernel_rfl) ?_
  refine eqf_cons (by rfl) (by go_simp; rfl) (by go_simp; rfl) (by go_simp) ?_
  refine eqf_cons (by rfl) (by go_simp; rfl) (by go_simp; rfl) (by go_simp) ?_
  exact eqf_last (by rfl) (by go_simp; rfl) (by go_simp; rfl) (by go_simp)
/-- What stays in memory while the two answers are held against each other. -/
def Sm (w : World) (B5 : Nat) (q1 q3 q4 q5 : Int) (bb : Bool) (ev : Value) (f : Option (Int × Int × Int)) (w' : World) : Prop :=
  w'.cell? ⟨B5, 0, none⟩ = some (.int .u32 q1) ∧ w'.cell? ⟨B5, 1, none⟩ = some (.bool bb) ∧ w'.cell? ⟨B5 + 1, 0, none⟩ = some (.int .i64 q3) ∧ w'.cell? ⟨B5 + 1, 1, none⟩ = some (.int .i64 q4) ∧ w'.cell? ⟨B5 + 1, 2, none⟩ = some (.int .i64 q5) ∧ Aside0 (ErrAt w' ev f) ∧ Aside0 (Below w.heap.size w w')
theorem Sm.below {w : World} {B5 : Nat} {q1 q3 q4 q5 : Int} {bb : Bool} {ev : Value} {f : Option (Int × Int × Int)} {w1 w2 : World} (h : Sm w B5 q1 q3 q4 q5 bb ev f w1) (hb : Below w1.heap.size w1 w2) : Sm w B5 q1 q3 q4 q5 bb ev f w2 :=
  ⟨pw_cell_below hb h.1, pw_cell_below hb h.2.1, pw_cell_below hb h.2.2.1, pw_cell_below hb h.2.2.2.1, pw_cell_below hb h.2.2.2.2.1, ⟨h.2.2.2.2.2.1.out.below hb⟩, ⟨below_step h.2.2.2.2.2.2.out hb⟩⟩
theorem Sm.drew {w : World} {B5 : Nat} {q1 q3 q4 q5 : Int} {bb : Bool} {ev : Value} {f : Option (Int × Int × Int)} {w1 : World} (h : Sm w B5 q1 q3 q4 q5 bb ev f w1) : Sm w B5 q1 q3 q4 q5 bb ev f w1.drew := h.below (Below.refl _ _).drew
set_option maxHeartbeats 2000000 in
set_option maxRecDepth 100000 in
theorem same_any (A0 A1 : Option Addr) (c0 c1 : Nat) (l : List S47) (syms : List S49) (a : Int) (b : Bool) (w : World) (hg : w.cell? ⟨0, 0, none⟩ = some (.iface 133 (.agg #[.pointer (some ⟨1, 40, none⟩)]))) (hl : Kd.C k47 w A0 l.length l) (hS : Kd.C k49 w A1 syms.length syms) (hc0 : l.length ≤ c0) (hc1 : syms.length ≤ c1)
    (hln : l.length ≤ 1000) (hls : syms.length ≤ 1000) (ha : U32 a) (hn : ∀ n ∈ l, U32 n.f3 ∧ n.f4.size ≤ maxLen) (hs : ∀ s ∈ syms, U32 s.f1 ∧ s.f0.size ≤ maxLen) :
    Calls Tryd.prog 9 #[.slice A0 l.length c0, .slice A1 syms.length c1, .int .u32 a, .bool b] w fun e w' => e = .returned (.bool true) ∧ Below w.heap.size w w' := by
  have hl0 : 0 < w.heap.size := World.block_lt_of_cell? w _ hg
  have hsr : ∀ s ∈ syms.map symOf, GoodS s := by
    intro s hs'
    obtain ⟨t, ht, rfl⟩ := List.mem_map.1 hs'
    refine ⟨(hs t ht).1, ?_⟩
    simp only [symOf]
    split <;> simp
  have hsz : ∀ s ∈ syms.map symOf, s.f0.size ≤ maxLen := by
    intro s hs'
    obtain ⟨t, ht, rfl⟩ := List.mem_map.1 hs'
    exact (hs t ht).2
  have hv1 := value_eq l (syms.map symOf) a b ha hsr (fun n h => (hn n h).1)
  have hg1 := valueT_range l (syms.map symOf) a b ha hsr (fun n h => (hn n h).1)
  have hz1 := valueT_zero l (syms.map symOf) a b
  have hcd := valueT_code l a b (syms.map symOf) (fun n h => (hn n h).1) ha hsr
  obtain ⟨k, hrf⟩ := ref_ev l syms a b hln hls ha hsr (fun n h => (hn n h).1)
  generalize valueT l (syms.map symOf) a b = r at hv1 hg1 hz1 hrf hcd
  obtain ⟨v, c, f⟩ := r
  simp only at hv1 hg1 hz1 hcd
  have hF := refEnd_fault v c f
  have hV : (refEnd (v, c, f)).1 = v ∧ (refEnd (v, c, f)).2.1 = decide (c = 1) := by
    cases f with
    | none => exact ⟨rfl, rfl⟩
    | some f =>
      obtain ⟨h1, h2⟩ := hz1 (by simp)
      subst h1 h2
      exact ⟨rfl, rfl⟩
  generalize refEnd (v, c, f) = q at hrf hF hV
  obtain ⟨q1, q2, q3, q4, q5⟩ := q
  simp only at hF hV
  obtain ⟨rfl, rfl⟩ := hV
  have HG := Aside0.mk hg
  have HL := Aside0.mk hl
  have HS := Aside0.mk hS
  have HN := Aside0.mk hn
  have HV := Aside0.mk hv1
  have HR := Aside0.mk hrf
  have HF := Aside0.mk hF
  have HCD := Aside0.mk hcd
  have HSZ := Aside0.mk hsz
  have hcl := hg1.2
  clear hg hl hS hn hs hsr hsz hv1 hrf hF hg1 hz1 hcd
  go_enter Tryd.func9, Tryd.ntmps9
  go_wp2_with (fail)
  refine (typecaselaw12_Syms.calls (syms.length + 1) A1 c1 syms (syms.map symOf) w HS.out hc1 (syms_f syms hls)).mono ?_
  rintro e w2 ⟨sv, rfl, hR2, hb2⟩
  obtain ⟨S2, sc2, rfl⟩ := Kd.R_slice hR2
  obtain ⟨-, -, hC2⟩ := Kd.R_reads' hR2
  have HB2 := Aside0.mk hb2
  have HC2 := Aside0.mk hC2
  clear hR2 hb2 hC2
  go_wp2_with (fail)
  have hV := value_any 3 l (syms.map symOf) a b A0 S2 c0 sc2 q1 c f w2 ((HB2.out.cell hl0).trans HG.out) (Kd.C_below HL.out HB2.out) HC2.out (fun n h => (HN.out n h).2) HSZ.out (by omega) HV.out
  rw [List.length_map] at hV
  refine hV.mono ?_
  clear hV
  rintro e w3 ⟨ev, rfl, he, hb3⟩
  have HB3 := Aside0.mk (below_step HB2.out hb3)
  have HE := Aside0.mk he
  clear hb3 he
  go_wp2_with (fail)
  refine (typecaseref12_Value.calls k A0 c0 l A1 c1 syms a b _ _ _ _ _ w3 (Kd.C_below HL.out HB3.out) hc0 (Kd.C_below HS.out HB3.out) hc1 HR.out).mono ?_
  rintro e w4 ⟨rfl, hb4⟩
  have HB4 := Aside0.mk (below_step HB3.out hb4)
  have HE4 := Aside0.mk (HE.out.below hb4)
  clear hb4
  go_wp2_with (fail)
  generalize hB5 : w4.heap.size = B5
  have hp5 : ((w4.alloc (.cells #[.int .u32 q1, .bool (decide (c = 1))] 55)).alloc (.cells #[.int .i64 q3, .int .i64 q4, .int .i64 q5] 29)).heap[B5]? = some (.cells #[.int .u32 q1, .bool (decide (c = 1))] 55 (0, 0)) := by rw [← hB5]; exact blk_alloc (heap_alloc_new w4 _) _
  have hf5 : ((w4.alloc (.cells #[.int .u32 q1, .bool (decide (c = 1))] 55)).alloc (.cells #[.int .i64 q3, .int .i64 q4, .int .i64 q5] 29)).heap[B5 + 1]? = some (.cells #[.int .i64 q3, .int .i64 q4, .int .i64 q5] 29 (0, 0)) := by rw [← hB5]; exact blk_two w4 _ _
  have hb5 := below_two w4 (.cells #[.int .u32 q1, .bool (decide (c = 1))] 55) (.cells #[.int .i64 q3, .int .i64 q4, .int .i64 q5] 29)
  have HB5 := Aside0.mk (below_step HB4.out hb5)
  have HE5 := Aside0.mk (HE4.out.below hb5)
  clear hb5 hB5
  generalize ((w4.alloc (.cells #[.int .u32 q1, .bool (decide (c = 1))] 55)).alloc (.cells #[.int .i64 q3, .int .i64 q4, .int .i64 q5] 29)) = w5 at *
  have a0 : w5.cell? ⟨B5, 0, none⟩ = some (.int .u32 q1) := (blk_cell hp5 0).trans rfl
  have a1 : w5.cell? ⟨B5, 1, none⟩ = some (.bool (decide (c = 1))) := (blk_cell hp5 1).trans rfl
  have a2 : w5.cell? ⟨B5 + 1, 0, none⟩ = some (.int .i64 q3) := (blk_cell hf5 0).trans rfl
  have a3 : w5.cell? ⟨B5 + 1, 1, none⟩ = some (.int .i64 q4) := (blk_cell hf5 1).trans rfl
  have a4 : w5.cell? ⟨B5 + 1, 2, none⟩ = some (.int .i64 q5) := (blk_cell hf5 2).trans rfl
  clear hp5 hf5
  have hcode := HCD.out
  have q29 : ∀ w, (Op.equalIn 10000 29 (.agg #[.int .i64 q3, .int .i64 q4, .int .i64 q5]) (.agg #[.int .i64 q3, .int .i64 q4, .int .i64 q5])).run Tryd.prog w = .ok true w := fun w => by
    have := eqFault 9998 w q3 q3 q4 q4 q5 q5
    simpa using this
  have HC := Aside0.mk hcode
  clear hcode HL HS HN HV HR HCD HSZ HC2 HB2 HB3 HB4 HE HE4
  rcases hcl with rfl | rfl
  · simp only [show decide ((0 : Int) = 1) = false from rfl] at a1
    have S0 := Aside0.mk (show Sm w B5 q1 q3 q4 q5 false ev f w5 from ⟨a0, a1, a2, a3, a4, HE5, HB5⟩)
    go_region_held3 (fun w' => w'.cell? ⟨B5, 0, none⟩ = some (.int .u32 q1) ∧ w'.cell? ⟨B5, 1, none⟩ = some (.bool false) ∧ w'.cell? ⟨B5 + 1, 0, none⟩ = some (.int .i64 q3) ∧ w'.cell? ⟨B5 + 1, 1, none⟩ = some (.int .i64 q4) ∧ w'.cell? ⟨B5 + 1, 2, none⟩ = some (.int .i64 q5) ∧ Aside0 (ErrAt w' ev f) ∧ Aside0 (Below w.heap.size w w')) (first | exact S0.out.drew | exact S0.out.drew.below (by assumption)) ((go_at_call 14; (refine (fault_any ev f _ ((S0.out.drew.2.2.2.2.2.2.out.cell hl0).trans HG.out) S0.out.drew.2.2.2.2.2.1.out HC.out).mono ?_); rintro e w6 ⟨rfl, hb6⟩; rw [HF.out]))
    all_goals
      have HB6 := Aside0.mk ((S0.out.drew.below hb6).2.2.2.2.2.2.out)
      clear hb6
      go_wp2_with (fail)
      go_ret
      exact ⟨rfl, HB6.out⟩
  · simp only [show decide ((1 : Int) = 1) = true from rfl] at a1
    have S0 := Aside0.mk (show Sm w B5 q1 q3 q4 q5 true ev f w5 from ⟨a0, a1, a2, a3, a4, HE5, HB5⟩)
    go_region_held3 (fun w' => w'.cell? ⟨B5, 0, none⟩ = some (.int .u32 q1) ∧ w'.cell? ⟨B5, 1, none⟩ = some (.bool true) ∧ w'.cell? ⟨B5 + 1, 0, none⟩ = some (.int .i64 q3) ∧ w'.cell? ⟨B5 + 1, 1, none⟩ = some (.int .i64 q4) ∧ w'.cell? ⟨B5 + 1, 2, none⟩ = some (.int .i64 q5) ∧ Aside0 (ErrAt w' ev f) ∧ Aside0 (Below w.heap.size w w')) (first | exact S0.out.drew | exact S0.out.drew.below (by assumption)) ((go_at_call 14; (refine (fault_any ev f _ ((S0.out.drew.2.2.2.2.2.2.out.cell hl0).trans HG.out) S0.out.drew.2.2.2.2.2.1.out HC.out).mono ?_); rintro e w6 ⟨rfl, hb6⟩; rw [HF.out]))
    all_goals
      have HB6 := Aside0.mk ((S0.out.drew.below hb6).2.2.2.2.2.2.out)
      clear hb6
      go_wp2_with (fail)
      go_ret
      exact ⟨rfl, HB6.out⟩
set_option maxHeartbeats 1000000 in
set_option maxRecDepth 100000 in
theorem nodes_any (A0 A1 : Option Addr) (c0 c1 : Nat) (l : List S47) (syms : List S49) (a : Int) (b : Bool) (w : World) (hg : w.cell? ⟨0, 0, none⟩ = some (.iface 133 (.agg #[.pointer (some ⟨1, 40, none⟩)]))) (hl : Kd.C k47 w A0 l.length l) (hS : Kd.C k49 w A1 syms.length syms) (hc0 : l.length ≤ c0) (hc1 : syms.length ≤ c1)
    (ha : U32 a) (hn : ∀ n ∈ l, U32 n.f3 ∧ n.f4.size ≤ maxLen) (hs : ∀ s ∈ syms, U32 s.f1 ∧ s.f0.size ≤ maxLen) :
    Calls Tryd.prog 3 #[.slice A0 l.length c0, .slice A1 syms.length c1, .int .u32 a, .bool b] w fun e w' => e = .returned (.bool true) ∧ Below w.heap.size w w' := by
  have hl0 : 0 < w.heap.size := World.block_lt_of_cell? w _ hg
  have HG := Aside0.mk hg
  have HL := Aside0.mk hl
  have HS := Aside0.mk hS
  have HN := Aside0.mk hn
  have HSS := Aside0.mk hs
  clear hg hl hS hn hs
  by_cases hb1 : 300 < l.length
  · have q0 : (300 : Int) < (l.length : Int) := by omega
    go_enter Tryd.func3, Tryd.ntmps3
    go_wp2_with (fail)
    refine (awake_any _ HG.out).mono ?_
    rintro e w1 ⟨rfl, hb1⟩
    have HB1 := Aside0.mk hb1
    clear hb1
    go_wp2_with (fail)
    go_ret
    exact ⟨rfl, HB1.out⟩
  by_cases hb2 : 100 < syms.length
  · have q0 : ¬ (300 : Int) < (l.length : Int) := by omega
    have q1 : (100 : Int) < (syms.length : Int) := by omega
    go_enter Tryd.func3, Tryd.ntmps3
    go_wp2_with (fail)
    refine (awake_any _ HG.out).mono ?_
    rintro e w1 ⟨rfl, hb1⟩
    have HB1 := Aside0.mk hb1
    clear hb1
    go_wp2_with (fail)
    go_ret
    exact ⟨rfl, HB1.out⟩
  go_enter Tryd.func3, Tryd.ntmps3
  go_wp2_with (fail)
  refine (awake_any _ HG.out).mono ?_
  rintro e w1 ⟨rfl, hb1⟩
  have HB1 := Aside0.mk hb1
  clear hb1
  have q0 : ¬ (300 : Int) < (l.length : Int) := by omega
  have q1 : ¬ (100 : Int) < (syms.length : Int) := by omega
  go_wp2_with (fail)
  refine (same_any A0 A1 c0 c1 l syms a b w1 ((HB1.out.cell hl0).trans HG.out) (Kd.C_below HL.out HB1.out) (Kd.C_below HS.out HB1.out) hc0 hc1 (by omega) (by omega) ha HN.out HSS.out).mono ?_
  rintro e w2 ⟨rfl, hb2⟩
  have HB2 := Aside0.mk (below_step HB1.out hb2)
  clear hb2
  go_wp2_with (fail)
  go_ret
  exact ⟨rfl, HB2.out⟩
end Go.Proofs.YtgholjhcbhcicaaDoor.PAll
