/- typecaselaw10.Fault: what it tells of no error, and of a Fault whose code is one of the sixteen. -/
import Derived.Test.YtgholjhcbhcicaaDoorErrs
import Derived.RegionTactic
import Derived.ChangeAlike
import Derived.Deep.QuietTactic
import Derived.BigQuiet
import Derived.StillTailTactics
namespace Go.Proofs.YtgholjhcbhcicaaDoor.Errs
open Go.RowKit Go.Extern.Stop Go.Stop Go.Extern Go.Proofs.YtgholjhcbhcicaaDoorW.PrintWords
set_option linter.unusedVariables false
set_option linter.unusedSimpArgs false
/-- The error value of a fault: nil, or a pointer to a Fault in memory. -/
def ErrAt (w : World) (v : Value) : Option (Int × Int × Int) → Prop
  | none => v = .nilIface
  | some (l, c, k) => ∃ b, v = .iface 82 (.pointer (some ⟨b, 0, none⟩)) ∧ w.heap[b]? = some (.cells #[.int .i64 l, .int .i64 c, .iface 78 (.int .i64 k)] 84 (0, 0))
theorem ErrAt.below {w w1 : World} {v : Value} {f : Option (Int × Int × Int)} (h : ErrAt w v f) (hb : Below w.heap.size w w1) : ErrAt w1 v f := by
  match f, h with
  | none, h => exact h
  | some (l, c, k), ⟨b, hv, hh⟩ => exact ⟨b, hv, (hb.block b (Array.getElem?_eq_some_iff.1 hh).1).trans hh⟩
theorem fault_nil (w : World) : Calls Tryd.prog 14 #[.nilIface] w fun e w' => e = .returned (.agg #[.int .i64 0, .int .i64 0, .int .i64 0]) ∧ Below w.heap.size w w' := by
  go_enter Tryd.func14, Tryd.ntmps14
  go_wp2
  exact bodyPost_ret (v := .agg #[.int .i64 0, .int .i64 0, .int .i64 0]) (by simp [results, Tryd.results14, go_sem]) rfl ⟨rfl, ((Below.refl _ _).alloc (Nat.le_refl _) _)⟩
set_option maxHeartbeats 4000000 in
set_option maxRecDepth 100000 in
theorem fault_some (b : Nat) (l c k : Int) (w : World) (hg : w.cell? ⟨0, 0, none⟩ = some (.iface 133 (.agg #[.pointer (some ⟨1, 40, none⟩)]))) (hb : w.heap[b]? = some (.cells #[.int .i64 l, .int .i64 c, .iface 78 (.int .i64 k)] 84 (0, 0))) (h1 : 1 ≤ k) (h2 : k ≤ 16) :
    Calls Tryd.prog 14 #[.iface 82 (.pointer (some ⟨b, 0, none⟩))] w fun e w' => e = .returned (.agg #[.int .i64 l, .int .i64 c, .int .i64 k]) ∧ Below w.heap.size w w' := by
  have hlb : b < w.heap.size := (Array.getElem?_eq_some_iff.1 hb).1
  have hl0 : 0 < w.heap.size := World.block_lt_of_cell? w _ hg
  go_enter Tryd.func14, Tryd.ntmps14
  go_wp2_with (fail)
  refine (asFault.hit ⟨b, 0, none⟩ (w.heap.size + 1) 82 (.pointer none) _ ?_ ?_).mono ?_
  · rw [World.cell?_alloc_lt _ _ ⟨0, 0, none⟩ (by simp), World.cell?_alloc_lt _ _ ⟨0, 0, none⟩ hl0]; exact hg
  · rw [show w.heap.size + 1 = (w.alloc (.cells #[.int .i64 0, .int .i64 0, .int .i64 0] 29)).heap.size from by simp]
    exact heap_alloc_new _ _
  rintro e w1 ⟨rfl, hgr, hbk⟩
  have hbw : w1.heap[b]? = some (.cells #[.int .i64 l, .int .i64 c, .iface 78 (.int .i64 k)] 84 (0, 0)) := by
    rw [hgr.block b (by simp; omega) (by intro h; have := Option.some.inj h; omega), Below.heap_alloc _ _ _ (by simp; omega), Below.heap_alloc _ _ _ hlb]
    exact hb
  have hrw : w1.heap[w.heap.size]? = some (.cells #[.int .i64 0, .int .i64 0, .int .i64 0] 29 (0, 0)) := by
    rw [hgr.block w.heap.size (by simp; omega) (by intro h; have := Option.some.inj h; omega), Below.heap_alloc _ _ _ (by simp)]
    exact heap_alloc_new _ _
  have hB : Below w.heap.size w w1 := ((((Below.refl _ _).alloc (Nat.le_refl _) _).alloc (by simp) _).grown hgr (by simp; omega) (fun j hj => by cases hj; omega))
  have c3 : w1.cell? ⟨w.heap.size + 1, 0, none⟩ = some (.pointer (some ⟨b, 0, none⟩)) := by simp [World.cell?, hbk]
  have c20 : w1.cell? ⟨w.heap.size, 0, none⟩ = some (.int .i64 0) := by simp [World.cell?, hrw]
  have c21 : w1.cell? ⟨w.heap.size, 1, none⟩ = some (.int .i64 0) := by simp [World.cell?, hrw]
  have c22 : w1.cell? ⟨w.heap.size, 2, none⟩ = some (.int .i64 0) := by simp [World.cell?, hrw]
  have f20 : w1.frozen? ⟨w.heap.size, 0, none⟩ = false := by simp [World.frozen?, hrw]
  have f21 : w1.frozen? ⟨w.heap.size, 1, none⟩ = false := by simp [World.frozen?, hrw]
  have f22 : w1.frozen? ⟨w.heap.size, 2, none⟩ = false := by simp [World.frozen?, hrw]
  have cb0 : w1.cell? ⟨b, 0, none⟩ = some (.int .i64 l) := by simp [World.cell?, hbw]
  have cb1 : w1.cell? ⟨b, 1, none⟩ = some (.int .i64 c) := by simp [World.cell?, hbw]
  have HB := Aside0.mk hB
  have HBW := Aside0.mk hbw
  have HRW := Aside0.mk hrw
  clear hB hbw hrw hbk hgr hb hg
  go_wp2_with (fail)
  go_loop [4] (fun v => ∃ j : Int, v = .int .i64 j ∧ 1 ≤ j ∧ j ≤ k) (fun v => (17 - intOf v).toNat)
  case atStart => exact ⟨1, rfl, by omega, h1⟩
  case round =>
    obtain ⟨j, rfl, hj1, hj2⟩ := hrel
    by_cases hjk : j < k
    · have hkj : (k == j) = false := by simp; omega
      go_wp2_with (fail)
      refine (is_code b _ _ k j _ _ w1 HBW.out).mono ?_
      rintro e w2 ⟨rfl, rfl⟩
      go_wp2_with (fail)
      go_round
      case rel => exact ⟨j + 1, rfl, by omega, by omega⟩
      case measure => simp [intOf]; omega
    · obtain rfl : j = k := by omega
      have hkj : (j == j) = true := by simp
      go_wp2_with (fail)
      refine (is_code b _ _ j j _ _ w1 HBW.out).mono ?_
      rintro e w2 ⟨rfl, rfl⟩
      go_wp2_with (fail)
      go_region
      all_goals go_wp2
      have HW := HRW.out
      have h1 := heap_setCell_same w2 w.heap.size 0 _ _ (.int .i64 l) HW
      have h2 := heap_setCell_same _ w.heap.size 1 _ _ (.int .i64 c) h1
      have h3 := heap_setCell_same _ w.heap.size 2 _ _ (.int .i64 j) h2
      have hbel := (((HB.out.setCell (p := ⟨w.heap.size, 0, none⟩) (Nat.le_refl _) (.int .i64 l)).setCell (p := ⟨w.heap.size, 1, none⟩) (Nat.le_refl _) (.int .i64 c)).setCell (p := ⟨w.heap.size, 2, none⟩) (Nat.le_refl _) (.int .i64 j)).drew
      replace h3 : ((((w2.setCell ⟨w.heap.size, 0, none⟩ (.int .i64 l)).setCell ⟨w.heap.size, 1, none⟩ (.int .i64 c)).setCell ⟨w.heap.size, 2, none⟩ (.int .i64 j)).drew).heap[w.heap.size]? = some (.cells #[.int .i64 l, .int .i64 c, .int .i64 j] 29 (0, 0)) := h3
      clear HW h1 h2 c3 c20 c21 c22 f20 f21 f22 cb0 cb1
      revert hbel h3
      generalize (((w2.setCell ⟨w.heap.size, 0, none⟩ (.int .i64 l)).setCell ⟨w.heap.size, 1, none⟩ (.int .i64 c)).setCell ⟨w.heap.size, 2, none⟩ (.int .i64 j)).drew = W3
      intro hbel h3
      have q0 : W3.cell? ⟨w.heap.size, 0, none⟩ = some (.int .i64 l) := by simp [World.cell?, h3]
      have q1 : W3.cell? ⟨w.heap.size, 1, none⟩ = some (.int .i64 c) := by simp [World.cell?, h3]
      have q2 : W3.cell? ⟨w.heap.size, 2, none⟩ = some (.int .i64 j) := by simp [World.cell?, h3]
      exact bodyPost_ret (v := .agg #[.int .i64 l, .int .i64 c, .int .i64 j]) (by simp [results, Tryd.results14, go_sem, q0, q1, q2]) rfl ⟨rfl, hbel⟩
/-- What the document's place and code of an error are: of none nothing. -/
def faultOf : Option (Int × Int × Int) → Value
  | none => .agg #[.int .i64 0, .int .i64 0, .int .i64 0]
  | some (l, c, k) => .agg #[.int .i64 l, .int .i64 c, .int .i64 k]
theorem fault_any (v : Value) (f : Option (Int × Int × Int)) (w : World) (hg : w.cell? ⟨0, 0, none⟩ = some (.iface 133 (.agg #[.pointer (some ⟨1, 40, none⟩)]))) (he : ErrAt w v f) (hk : ∀ l c k, f = some (l, c, k) → 1 ≤ k ∧ k ≤ 16) :
    Calls Tryd.prog 14 #[v] w fun e w' => e = .returned (faultOf f) ∧ Below w.heap.size w w' := by
  match f, he, hk with
  | none, he, _ => obtain rfl : v = .nilIface := he; exact fault_nil w
  | some (l, c, k), ⟨b, hv, hb⟩, hk => subst hv; exact fault_some b l c k w hg hb (hk l c k rfl).1 (hk l c k rfl).2
end Go.Proofs.YtgholjhcbhcicaaDoor.Errs
