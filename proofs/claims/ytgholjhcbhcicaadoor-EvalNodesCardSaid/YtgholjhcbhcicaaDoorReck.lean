/- The reckoner's state in memory, and its search for a symbol. -/
import Derived.Test.YtgholjhcbhcicaaDoorFind
import Derived.Maps.Own
import Derived.Maps.OwnOps
import Derived.Maps.OwnSet
import Derived.Maps.Views
import Derived.RegionTactic
import Derived.StillTailTactics
import Derived.Outline
namespace Go.Proofs.YtgholjhcbhcicaaDoor.PAll
open Go.RowKit Go.Proofs.YtgholjhcbhcicaaDoorW.PrintWords Go.Proofs.YtgholjhcbhcicaaDoorW.PrintLast Go.Proofs.YtgholjhcbhcicaaDoorW.PrintMore Go.Proofs.YtgholjhcbhcicaaDoor.Errs Go.Maps
set_option linter.unusedVariables false
set_option linter.unusedSimpArgs false
/-- The key of a name. -/
def kl (nm : ByteArray) : Lit := .string nm.data.toList
/-- What the map of names reads as: of the first 'n' symbols the first one of a name counts. -/
def namesFrom (l : List S52) : Nat → DataW Unit
  | 0 => .map []
  | i + 1 => if Maps.has (namesFrom l i) (kl (rd_T52 l (i : Int)).f0) = true then namesFrom l i else (namesFrom l i).put (kl (rd_T52 l (i : Int)).f0) (.lit (.int .i64 (i : Int)))
/-- The map of names, as far as it is made. -/
def NamesAt (w : World) (base : Nat) (P : Nat → Prop) (g : Nat) (syms : List S52) (asked : Int) (nm : Value) : Prop :=
  (asked ≤ 8 ∧ nm = .map none) ∨ (8 < asked ∧ ∃ mb n, nm = .map (some mb) ∧ P mb ∧ base ≤ mb ∧ mb ≠ g ∧ w.ownsMap Tryd.prog 9 (plainElem Tryd.prog 3) mb n (namesFrom syms syms.length))
theorem size_set (w : World) (p : Addr) (v : Value) : (w.setCell p v).heap.size = w.heap.size := by simp [World.setCell]
theorem keep_set (w : World) (g j : Nat) (v : Value) : KeepBut w (w.setCell ⟨g, j, none⟩ v) g none := ⟨by rw [size_set]; exact Nat.le_refl _, fun i hi hne _ => Below.heap_setCell w ⟨g, j, none⟩ v i hne⟩
theorem keep_then {w w1 w2 : World} {g : Nat} (h : KeepBut w w1 g none) (hb : Below w1.heap.size w1 w2) : KeepBut w w2 g none := ⟨Nat.le_trans h.1 hb.size, fun i hi hne hr => (hb.block i (Nat.lt_of_lt_of_le hi h.1)).trans (h.2 i hi hne hr)⟩
/-- The reckoner's state. -/
def RS (w0 w : World) (P : Nat → Prop) (g : Nat) (A : Option Addr) (c : Nat) (syms : List S52) (place : Int) (early : Bool) (asked : Int) (left : List S86) : Prop :=
  ∃ nm lv, P g ∧ w0.heap.size ≤ g ∧ w.heap[g]? = some (.cells #[.slice A syms.length c, nm, .int .u32 place, .bool early, .int .i64 asked, lv] 77 (0, 0)) ∧ 0 ≤ asked ∧ asked ≤ 1000000 ∧
    NamesAt w w0.heap.size P g syms asked nm ∧ Kd.R k86 86 w w0.heap.size (fun k => P k ∧ k ≠ g) lv left
set_option maxHeartbeats 4000000 in
set_option maxRecDepth 100000 in
theorem find_few (P : Nat → Prop) (g : Nat) (A : Option Addr) (c : Nat) (syms : List S52) (place : Int) (early : Bool) (asked : Int) (left : List S86) (nm : ByteArray) (w0 w : World) (hB : Below w0.heap.size w0 w) (hS : Kd.C k52 w0 A syms.length syms) (hI : RS w0 w P g A c syms place early asked left) (ha : asked < 8) :
    Calls Tryd.prog 52 #[.pointer (some ⟨g, 0, none⟩), .string nm] w fun e w' => e = .returned (.tuple #[.int .i64 (idxInt (symIdx syms nm)), .bool (decide (0 ≤ idxInt (symIdx syms nm)))]) ∧ RS w0 w' P g A c syms place early (asked + 1) left ∧ Below w0.heap.size w0 w' ∧ Kept w w' P := by
  obtain ⟨nv, lv, hPg, hgB, hg, h0, h1, hN, hL⟩ := hI
  have hlg : g < w.heap.size := (Array.getElem?_eq_some_iff.1 hg).1
  have c4 : w.cell? ⟨g, 4, none⟩ = some (.int .i64 asked) := (blk_cell hg 4).trans rfl
  have f4 : w.frozen? ⟨g, 4, none⟩ = false := blk_frozen hg 4
  have c0 : w.cell? ⟨g, 0, none⟩ = some (.slice A syms.length c) := (blk_cell hg 0).trans rfl
  have HG := Aside0.mk hg
  have HN := Aside0.mk hN
  have HL := Aside0.mk hL
  have HB := Aside0.mk hB
  have HS := Aside0.mk hS
  clear hg hN hL hB hS
  go_enter Tryd.func52, Tryd.ntmps52
  go_wp2_with (fail)
  have hbw : Below w0.heap.size w0 ((w.setCell ⟨g, 4, none⟩ (.int .i64 (asked + 1))).alloc (.cells #[.string nm] 9)) := (HB.out.setCell hgB _).alloc (by rw [size_set]; exact HB.out.size) _
  have hnm : ((w.setCell ⟨g, 4, none⟩ (.int .i64 (asked + 1))).alloc (.cells #[.string nm] 9)).cell? ⟨w.heap.size, 0, none⟩ = some (.string nm) := by
    have h2 : ((w.setCell ⟨g, 4, none⟩ (.int .i64 (asked + 1))).alloc (.cells #[.string nm] 9)).heap[w.heap.size]? = some (.cells #[.string nm] 9 (0, 0)) := by
      have := heap_alloc_new (w.setCell ⟨g, 4, none⟩ (.int .i64 (asked + 1))) (.cells #[.string nm] 9)
      rwa [size_set] at this
    exact (blk_cell h2 0).trans rfl
  have HBW := Aside0.mk hbw
  refine (index_any A c syms w.heap.size nm _ (Kd.C_below HS.out hbw) hnm).mono ?_
  clear hbw hnm
  rintro e w1 ⟨rfl, hb1⟩
  have HW := Aside0.mk hb1
  clear hb1
  go_wp2_with (fail)
  go_ret2
  have hk : KeepBut w w1 g none := keep_then (keep_then (keep_set w g 4 _) ((Below.refl _ _).alloc (Nat.le_refl _) (.cells #[.string nm] 9))) HW.out
  have hg1 : w1.heap[g]? = some (.cells #[.slice A syms.length c, nv, .int .u32 place, .bool early, .int .i64 (asked + 1), lv] 77 (0, 0)) := by
    rw [HW.out.block g (by simp; omega), Below.heap_alloc _ _ _ (by simp; omega), heap_setCell_same w g 4 _ _ _ HG.out]
    rfl
  refine ⟨rfl, ⟨nv, lv, hPg, hgB, hg1, by omega, by omega, ?_, ?_⟩, below_weaken HBW.out (by have := HB.out.size; simp; omega) HW.out, ?_⟩
  · rcases HN.out with ⟨_, hn⟩ | ⟨hn, _⟩
    · exact .inl ⟨by omega, hn⟩
    · omega
  · exact Kd.R_step HL.out (fun k hk1 hlt => hk.2 k hlt hk1.2 (by simp))
  · exact ⟨hk.1, fun i hi hn => hk.2 i hi (fun e => hn (e ▸ hPg)) (by simp)⟩
end Go.Proofs.YtgholjhcbhcicaaDoor.PAll
