/- A node with one part. -/
import Derived.Test.YtgholjhcbhcicaaDoorPlain
import Derived.Test.YtgholjhcbhcicaaDoorPAllx1
import Derived.BigRegion
namespace Go.Proofs.YtgholjhcbhcicaaDoor.PAll
open Go.RowKit Go.Proofs.YtgholjhcbhcicaaDoorW.PrintWords Go.Proofs.YtgholjhcbhcicaaDoorW.PrintLast Go.Proofs.YtgholjhcbhcicaaDoorW.PrintMore Go.Proofs.YtgholjhcbhcicaaDoor.Errs Go.Maps
set_option linter.unusedVariables false
set_option linter.unusedSimpArgs false
/-- What a node with one part comes to. -/
def turnedF (kind v cls place : Int) (early : Bool) : Option (Int × Int × Int) :=
  if kind = 6 then (word_Hi.f v).bind fun t => some (t, 0, 0)
  else if kind = 7 then (word_Lo.f v).bind fun t => some (t % 4294967296, 0, 0)
  else if kind = 8 then (if early = true then some (0, 0, 7) else some ((v - place) % 4294967296, 0, 0))
  else if cls ≠ 0 then some (0, 0, 7)
  else if kind = 4 then some ((-v) % 4294967296, 0, 0)
  else some (bits BinOp.xor IntKind.u32 IntKind.u32.max v, 0, 0)
set_option maxHeartbeats 4000000 in
set_option maxRecDepth 100000 in
theorem turned_any (g : Nat) (kind v cls place : Int) (early : Bool) (a4 : Value) (a5 : Value) (a0 a1 : Value) (r : Int × Int × Int) (w : World) (hg : w.heap[g]? = some (.cells #[a0, a1, .int .u32 place, .bool early, a4, a5] 77 (0, 0))) (h : turnedF kind v cls place early = some r) :
    Calls Tryd.prog 37 #[.pointer (some ⟨g, 0, none⟩), .int .i64 kind, .agg #[.int .u32 v, .int .i64 cls]] w fun e w' => e = .returned (partV r) ∧ Below w.heap.size w w' := by
  have hgl : g < w.heap.size := (Array.getElem?_eq_some_iff.1 hg).1
  have c2 : w.cell? ⟨g, 2, none⟩ = some (.int .u32 place) := (blk_cell hg 2).trans rfl
  have c3 : w.cell? ⟨g, 3, none⟩ = some (.bool early) := (blk_cell hg 3).trans rfl
  clear hg
  unfold turnedF at h
  by_cases k6 : kind = 6
  · rw [if_pos k6] at h
    cases hh : word_Hi.f v with
    | none => rw [hh] at h; simp at h
    | some t =>
      rw [hh] at h
      simp only [Option.bind_some, Option.some.injEq] at h
      subst h
      have HH := Aside0.mk hh
      clear hh
      go_enter Tryd.func37, Tryd.ntmps37
      go_wp2_with (fail)
      refine (word_Hi.calls v t _ HH.out).mono ?_
      rintro e w1 ⟨rfl, hb1⟩
      have hb0 := below_two w (.cells #[.int .u32 v, .int .i64 cls] 86) (.cells #[.int .u32 0, .int .i64 0] 86)
      have hp1 : w1.heap[w.heap.size + 1]? = some (.cells #[.int .u32 0, .int .i64 0] 86 (0, 0)) := (hb1.block _ (by simp)).trans (blk_two _ _ _)
      have q0 := blk_cell hp1 0
      have q1 := blk_cell hp1 1
      have q2 := blk_frozen hp1 0
      have q3 := blk_frozen hp1 1
      have hpl1 : w.heap.size + 1 < w1.heap.size := (Array.getElem?_eq_some_iff.1 hp1).1
      have HB1 := Aside0.mk (below_weaken hb0 hb0.size hb1)
      have HP1 := Aside0.mk hp1
      clear hb0 hb1 hp1
      go_wp2_with (fail)
      refine bodyPost_ret (results_ct rfl _ _ (w.heap.size + 1) 86 #[.int .u32 (t), .int .i64 0] (0, 0) _ rfl (blk_put (blk_put HP1.out 0 _ rfl) 1 _ rfl) Tryd.underlying86 rfl (by kernel_rfl)) rfl ?_
      exact ⟨rfl, (HB1.out.setCell (by simp) _).setCell (by simp) _⟩
  rw [if_neg k6] at h
  by_cases k7 : kind = 7
  · rw [if_pos k7] at h
    cases hh : word_Lo.f v with
    | none => rw [hh] at h; simp at h
    | some t =>
      rw [hh] at h
      simp only [Option.bind_some, Option.some.injEq] at h
      subst h
      have HH := Aside0.mk hh
      clear hh
      go_enter Tryd.func37, Tryd.ntmps37
      go_wp2_with (fail)
      refine (word_Lo.calls v t _ HH.out).mono ?_
      rintro e w1 ⟨rfl, hb1⟩
      have hb0 := below_two w (.cells #[.int .u32 v, .int .i64 cls] 86) (.cells #[.int .u32 0, .int .i64 0] 86)
      have hp1 : w1.heap[w.heap.size + 1]? = some (.cells #[.int .u32 0, .int .i64 0] 86 (0, 0)) := (hb1.block _ (by simp)).trans (blk_two _ _ _)
      have q0 := blk_cell hp1 0
      have q1 := blk_cell hp1 1
      have q2 := blk_frozen hp1 0
      have q3 := blk_frozen hp1 1
      have hpl1 : w.heap.size + 1 < w1.heap.size := (Array.getElem?_eq_some_iff.1 hp1).1
      have HB1 := Aside0.mk (below_weaken hb0 hb0.size hb1)
      have HP1 := Aside0.mk hp1
      clear hb0 hb1 hp1
      go_wp2_with (fail)
      refine bodyPost_ret (results_ct rfl _ _ (w.heap.size + 1) 86 #[.int .u32 (t % 4294967296), .int .i64 0] (0, 0) _ rfl (blk_put (blk_put HP1.out 0 _ rfl) 1 _ rfl) Tryd.underlying86 rfl (by kernel_rfl)) rfl ?_
      exact ⟨rfl, (HB1.out.setCell (by simp) _).setCell (by simp) _⟩
  rw [if_neg k7] at h
  by_cases k8 : kind = 8
  · rw [if_pos k8] at h
    cases early with
    | true =>
      simp only [if_true, Option.some.injEq] at h
      subst h
      go_enter Tryd.func37, Tryd.ntmps37
      go_wp2_with (fail)
      refine bodyPost_ret (results_ct rfl _ _ (w.heap.size + 1) 86 #[.int .u32 (0), .int .i64 0] (0, 0) _ rfl (blk_two _ _ _) Tryd.underlying86 rfl (by kernel_rfl)) rfl ?_
      exact ⟨rfl, below_two _ _ _⟩
    | false =>
      simp only [Bool.false_eq_true, if_false, Option.some.injEq] at h
      subst h
      go_enter Tryd.func37, Tryd.ntmps37
      go_wp2_with (fail)
      go_region
      go_wp2_with (fail)
      refine bodyPost_ret (results_ct rfl _ _ (w.heap.size + 1) 86 #[.int .u32 ((v - place) % 4294967296), .int .i64 0] (0, 0) _ rfl (blk_drew (blk_two _ _ _)) Tryd.underlying86 rfl (by kernel_rfl)) rfl ?_
      exact ⟨rfl, below_drew1 (below_two _ _ _)⟩
  rw [if_neg k8] at h
  by_cases kc : cls = 0
  · rw [if_neg (by simpa using kc)] at h
    by_cases k4 : kind = 4
    · rw [if_pos k4] at h
      simp only [Option.some.injEq] at h
      subst h
      go_enter Tryd.func37, Tryd.ntmps37
      go_wp2_with (fail)
      refine bodyPost_ret (results_ct rfl _ _ (w.heap.size + 1) 86 #[.int .u32 ((-v) % 4294967296), .int .i64 0] (0, 0) _ rfl (blk_two _ _ _) Tryd.underlying86 rfl (by kernel_rfl)) rfl ?_
      exact ⟨rfl, below_two _ _ _⟩
    · rw [if_neg k4] at h
      simp only [Option.some.injEq] at h
      subst h
      go_enter Tryd.func37, Tryd.ntmps37
      go_wp2_with (fail)
      refine bodyPost_ret (results_ct rfl _ _ (w.heap.size + 1) 86 #[.int .u32 (bits BinOp.xor IntKind.u32 IntKind.u32.max v), .int .i64 0] (0, 0) _ rfl (blk_two _ _ _) Tryd.underlying86 rfl (by kernel_rfl)) rfl ?_
      exact ⟨rfl, below_two _ _ _⟩
  · rw [if_pos kc] at h
    simp only [Option.some.injEq] at h
    subst h
    go_enter Tryd.func37, Tryd.ntmps37
    go_wp2_with (fail)
    refine bodyPost_ret (results_ct rfl _ _ (w.heap.size + 1) 86 #[.int .u32 (0), .int .i64 0] (0, 0) _ rfl (blk_two _ _ _) Tryd.underlying86 rfl (by kernel_rfl)) rfl ?_
    exact ⟨rfl, below_two _ _ _⟩
end Go.Proofs.YtgholjhcbhcicaaDoor.PAll
