/- The search in the map of names. -/
import Derived.Test.YtgholjhcbhcicaaDoorNames
import Derived.WalkSpells
namespace Go.Proofs.YtgholjhcbhcicaaDoor.PAll
open Go.RowKit Go.Proofs.YtgholjhcbhcicaaDoorW.PrintWords Go.Proofs.YtgholjhcbhcicaaDoorW.PrintLast Go.Proofs.YtgholjhcbhcicaaDoorW.PrintMore Go.Proofs.YtgholjhcbhcicaaDoor.Errs Go.Maps
set_option linter.unusedVariables false
set_option linter.unusedSimpArgs false
theorem eql_names (w : World) (r : Option Nat) : (binOp .eql 74 (.map r) (.map none)).run Tryd.prog w = .ok (.bool r.isNone) w := run_eql_map_nil w _ _ _ r Tryd.underlying74
set_option maxHeartbeats 4000000 in
set_option maxRecDepth 100000 in
theorem find_map (P : Nat → Prop) (g : Nat) (A : Option Addr) (c : Nat) (syms : List S52) (place : Int) (early : Bool) (asked : Int) (left : List S86) (nm : ByteArray) (hnm : nm.size ≤ maxLen) (w0 w : World) (hB : Below w0.heap.size w0 w) (hI : RS w0 w P g A c syms place early asked left) (ha : 8 < asked) (hm : asked < 1000000) :
    Calls Tryd.prog 52 #[.pointer (some ⟨g, 0, none⟩), .string nm] w fun e w' => (∃ x : Int, e = .returned (.tuple #[.int .i64 x, .bool (decide (0 ≤ idxInt (symIdx syms nm)))]) ∧ (decide (0 ≤ idxInt (symIdx syms nm)) = true → x = idxInt (symIdx syms nm))) ∧ RS w0 w' P g A c syms place early (asked + 1) left ∧ Below w0.heap.size w0 w' ∧ Kept w w' P := by
  obtain ⟨nv, lv, hPg, hgB, hg, h0, h1, hN, hL⟩ := hI
  rcases hN with ⟨hc, _⟩ | ⟨_, mb, n, rfl, hPm, hmB, hmg, hown⟩
  · omega
  have hlg : g < w.heap.size := (Array.getElem?_eq_some_iff.1 hg).1
  have c4 : w.cell? ⟨g, 4, none⟩ = some (.int .i64 asked) := (blk_cell hg 4).trans rfl
  have f4 : w.frozen? ⟨g, 4, none⟩ = false := blk_frozen hg 4
  have c1 : w.cell? ⟨g, 1, none⟩ = some (.map (some mb)) := (blk_cell hg 1).trans rfl
  have hq := eql_names
  have hown1 : ((w.setCell ⟨g, 4, none⟩ (.int .i64 (asked + 1))).alloc (.cells #[.string nm] 9)).ownsMap Tryd.prog 9 (plainElem Tryd.prog 3) mb n (namesFrom syms syms.length) := (hown.setCell hmg _).alloc _
  obtain ⟨x, hx, hrun⟩ := look_names hown1 nm hnm
  have hlk := fun k => hrun (((w.setCell ⟨g, 4, none⟩ (.int .i64 (asked + 1))).alloc (.cells #[.string nm] 9)).drewN k) (by simp [World.drewN])
  have HG := Aside0.mk hg
  have HL := Aside0.mk hL
  have HB := Aside0.mk hB
  have HX := Aside0.mk hx
  have HO := Aside0.mk hown1
  have HO0 := Aside0.mk hown
  clear hg hL hB hx hrun hown1 hown
  go_enter Tryd.func52, Tryd.ntmps52
  go_wp2_with (fail)
  go_quiet (fail)
  go_wp2_with (fail)
  go_ret2
  have hk : KeepBut w ((w.setCell ⟨g, 4, none⟩ (.int .i64 (asked + 1))).alloc (.cells #[.string nm] 9)) g none := keep_then (keep_set w g 4 _) ((Below.refl _ _).alloc (Nat.le_refl _) _)
  have hg1 : ((w.setCell ⟨g, 4, none⟩ (.int .i64 (asked + 1))).alloc (.cells #[.string nm] 9)).heap[g]? = some (.cells #[.slice A syms.length c, .map (some mb), .int .u32 place, .bool early, .int .i64 (asked + 1), lv] 77 (0, 0)) := by
    rw [Below.heap_alloc _ _ _ (by simp; omega), heap_setCell_same w g 4 _ _ _ HG.out]
    rfl
  have hbw : Below w0.heap.size w0 ((w.setCell ⟨g, 4, none⟩ (.int .i64 (asked + 1))).alloc (.cells #[.string nm] 9)) := (HB.out.setCell hgB _).alloc (by rw [size_set]; exact HB.out.size) _
  refine ⟨⟨x, rfl, HX.out⟩, ⟨.map (some mb), lv, hPg, hgB, hg1, by omega, by omega, .inr ⟨by omega, mb, n, rfl, hPm, hmB, hmg, HO.out⟩, ?_⟩, ?_, ?_⟩
  · exact Kd.R_step HL.out (fun k hk1 hlt => hk.2 k hlt hk1.2 (by simp))
  · exact ⟨hbw.os, hbw.tape, hbw.output, hbw.size, hbw.block⟩
  · exact ⟨hk.1, fun i hi hn => hk.2 i hi (fun e => hn (e ▸ hPg)) (by simp)⟩
end Go.Proofs.YtgholjhcbhcicaaDoor.PAll
