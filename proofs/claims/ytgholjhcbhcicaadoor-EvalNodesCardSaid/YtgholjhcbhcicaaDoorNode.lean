/- A node. -/
import Derived.Test.YtgholjhcbhcicaaDoorTurned
import Derived.Test.YtgholjhcbhcicaaDoorPAllx1
import Derived.Deep.RegionLaw
import Derived.StillTailTactics
namespace Go.Proofs.YtgholjhcbhcicaaDoor.PAll
open Go.RowKit Go.Proofs.YtgholjhcbhcicaaDoorW.PrintWords Go.Proofs.YtgholjhcbhcicaaDoorW.PrintLast Go.Proofs.YtgholjhcbhcicaaDoorW.PrintMore Go.Proofs.YtgholjhcbhcicaaDoor.Errs Go.Maps
set_option linter.unusedVariables false
set_option linter.unusedSimpArgs false
/-- What a node does to the parts that are left: the new ones, and a code. -/
def codeV (c : Int) : Value := if c = 0 then .nilIface else .iface 78 (.int .i64 c)
def NodeEnd (w0 w : World) (P : Nat → Prop) (g : Nat) (A : Option Addr) (c : Nat) (syms : List S52) (place : Int) (early : Bool) (asked : Int) (left : List S86) (w' : World) : Prop :=
  (∃ asked', asked ≤ asked' ∧ asked' ≤ asked + 1 ∧ RS w0 w' P g A c syms place early asked' left) ∧ Below w0.heap.size w0 w' ∧ Kept w w' P
/-- How many parts a node has. -/
def partsOf (x : Int) : Int := if x = 1 ∨ x = 2 ∨ x = 3 then 0 else if 4 ≤ x ∧ x ≤ 8 then 1 else if 9 ≤ x ∧ x ≤ 17 then 2 else -1
theorem parts_eq (x : Int) : eval_parts.f 2 x = some (partsOf x) := by
  by_cases h : 1 ≤ x ∧ x ≤ 17
  · obtain ⟨h1, h2⟩ := h
    have : x = 1 ∨ x = 2 ∨ x = 3 ∨ x = 4 ∨ x = 5 ∨ x = 6 ∨ x = 7 ∨ x = 8 ∨ x = 9 ∨ x = 10 ∨ x = 11 ∨ x = 12 ∨ x = 13 ∨ x = 14 ∨ x = 15 ∨ x = 16 ∨ x = 17 := by omega
    rcases this with rfl | rfl | rfl | rfl | rfl | rfl | rfl | rfl | rfl | rfl | rfl | rfl | rfl | rfl | rfl | rfl | rfl <;> decide
  · have hb : ∀ j : Int, 1 ≤ j → j ≤ 17 → (x == j) = false := fun j h1 h2 => by
      rw [beq_eq_false_iff_ne]
      omega
    have e : partsOf x = -1 := by
      unfold partsOf
      rw [if_neg (by omega), if_neg (by omega), if_neg (by omega)]
    rw [e]
    simp only [eval_parts.f, eval_parts.j0, eval_parts.j1, hb 1 (by omega) (by omega), hb 3 (by omega) (by omega), hb 4 (by omega) (by omega), hb 8 (by omega) (by omega), Bool.false_eq_true, if_false]
    repeat rw [if_neg (by omega)]
theorem parts_any (x : Int) (w : World) : Calls Tryd.prog 35 #[.int .i64 x] w fun e w' => e = .returned (.int .i64 (partsOf x)) ∧ ∃ m, w' = w.drewN m :=
  (eval_parts.calls 2 x (partsOf x) w (parts_eq x)).mono fun e w' h => ⟨h.1, h.2.out⟩
set_option maxHeartbeats 8000000 in
set_option maxRecDepth 100000 in
theorem node_bad (P : Nat → Prop) (g : Nat) (A : Option Addr) (c : Nat) (syms : List S52) (place : Int) (early : Bool) (asked : Int) (left : List S86) (n : S47) (w0 w : World) (hB : Below w0.heap.size w0 w) (hI : RS w0 w P g A c syms place early asked left) (hbad : partsOf n.f0 < 0 ∨ (left.length : Int) < partsOf n.f0) :
    Calls Tryd.prog 23 #[.pointer (some ⟨g, 0, none⟩), .agg #[.int .i64 n.f0, .int .i64 n.f1, .int .i64 n.f2, .int .u32 n.f3, .string n.f4]] w fun e w' => e = .returned (codeV 6) ∧ Below w.heap.size w w' := by
  have HI := Aside0.mk hI
  obtain ⟨nv, lv, hPg, hgB, hg, h0, h1, hN, hL⟩ := hI
  have hgl : g < w.heap.size := (Array.getElem?_eq_some_iff.1 hg).1
  obtain ⟨L, cc, rfl⟩ := Kd.R_slice hL
  have c5 : w.cell? ⟨g, 5, none⟩ = some (.slice L left.length cc) := (blk_cell hg 5).trans rfl
  have HB := Aside0.mk hB
  clear hg hL hB hN
  have hend : ∀ m, Below w.heap.size w ((w.alloc (.cells #[.int .i64 n.f0, .int .i64 n.f1, .int .i64 n.f2, .int .u32 n.f3, .string n.f4] 47)).drewN m) := fun m => pw_below_drewN ((Below.refl _ _).alloc (Nat.le_refl _) _) m
  have HE := Aside0.mk hend
  clear hend
  by_cases hneg : partsOf n.f0 < 0
  · go_enter Tryd.func23, Tryd.ntmps23
    go_wp2_with (fail)
    refine (parts_any n.f0 _).mono ?_
    rintro e w1 ⟨rfl, m, rfl⟩
    go_wp2_with (fail)
    go_ret
    exact ⟨rfl, HE.out m⟩
  · have hbad : (left.length : Int) < partsOf n.f0 := hbad.resolve_left hneg
    go_enter Tryd.func23, Tryd.ntmps23
    go_wp2_with (fail)
    refine (parts_any n.f0 _).mono ?_
    rintro e w1 ⟨rfl, m, rfl⟩
    go_wp2_with (fail)
    go_ret
    exact ⟨rfl, HE.out m⟩
/-- What a node comes to, of the parts ahead of it: value, class, code. -/
def nodeF (k : Nat) (n : S47) (left : List S86) (syms : List S52) (place : Int) (early : Bool) : Option (Int × Int × Int) :=
  if partsOf n.f0 = 0 then some (plainF n syms place early)
  else if partsOf n.f0 = 1 then turnedF n.f0 (rd_T86 left ((left.length : Int) - 1)).f0 (rd_T86 left ((left.length : Int) - 1)).f1 place early
  else eval_joined.f k n.f0 (rd_T86 left ((left.length : Int) - 2)).f0 (rd_T86 left ((left.length : Int) - 2)).f1 (rd_T86 left ((left.length : Int) - 1)).f0 (rd_T86 left ((left.length : Int) - 1)).f1
theorem infoPart : (Tryd.prog.info? 86).map (fun i => (i.zero, i.size, i.bytes)) = some (some (.agg #[.int .u32 0, .int .i64 0]), k86.sz, 16) := by kernel_rfl
/-- The tail: the new part is laid behind the parts that stay. -/
theorem node_fin {w0 w W W4 : World} (P : Nat → Prop) (g : Nat) (A : Option Addr) (c : Nat) (syms : List S52) (place : Int) (early : Bool) {asked' : Int} {left left' : List S86} {nm lv v1 : Value} (hPg : P g) (hgB : w0.heap.size ≤ g) (hg : W.heap[g]? = some (.cells #[.slice A syms.length c, nm, .int .u32 place, .bool early, .int .i64 asked', lv] 77 (0, 0))) (h0 : 0 ≤ asked') (h1 : asked' ≤ 1000000)
    (hN : NamesAt W w0.heap.size P g syms asked' nm) (hL : Kd.R k86 86 W w0.heap.size (fun k => P k ∧ k ≠ g) lv left) (hb : Below w0.heap.size w0 W) (hk : Kept w W P) (hgr : W.grownBy W4 lv.ownBlock) (hR : Kd.R k86 86 W4 w0.heap.size (fun k => P k ∧ k ≠ g) v1 left') :
    RS w0 (W4.setCell ⟨g, 5, none⟩ v1) P g A c syms place early asked' left' ∧ Below w0.heap.size w0 (W4.setCell ⟨g, 5, none⟩ v1) ∧ Kept w (W4.setCell ⟨g, 5, none⟩ v1) P := by
  have hgl : g < W.heap.size := (Array.getElem?_eq_some_iff.1 hg).1
  have hgrow : some g ≠ lv.ownBlock := fun e => (hL.1 g e.symm).2 rfl
  have hg4 : W4.heap[g]? = some (.cells #[.slice A syms.length c, nm, .int .u32 place, .bool early, .int .i64 asked', lv] 77 (0, 0)) := (hgr.block g hgl hgrow).trans hg
  have hbase : ∀ i, i < w0.heap.size → some i ≠ lv.ownBlock := fun i hi e => by
    have := (Kd.R_bound hL).1 i e.symm
    omega
  refine ⟨⟨nm, v1, hPg, hgB, ?_, h0, h1, ?_, ?_⟩, ?_, ?_⟩
  · rw [heap_setCell_same W4 g 5 _ _ _ hg4]
    rfl
  · rcases hN with h | ⟨h8, mb, n, rfl, hPm, hmB, hmg, hown⟩
    · exact .inl h
    · refine .inr ⟨h8, mb, n, rfl, hPm, hmB, hmg, World.ownsMap.setCell ?_ hmg _⟩
      have hml := hown.lt
      have hne : some mb ≠ lv.ownBlock := by
        intro e
        obtain ⟨inner, ho⟩ := Kd.R_own hL
        obtain ⟨cells, hc⟩ := own_typed ho mb e.symm
        obtain ⟨es, ck, hm, _⟩ := hown
        rw [hc] at hm
        cases hm
      unfold World.ownsMap at hown ⊢
      rwa [hgr.block mb hml hne]
  · exact Kd.R_far hR (fun k hk => hk.2) v1
  · have h4 : Below w0.heap.size w0 W4 := ⟨hgr.os.trans hb.os, hgr.tape.trans hb.tape, hgr.output.trans hb.output, Nat.le_trans hb.size hgr.size, fun i hi => (hgr.block i (Nat.lt_of_lt_of_le hi hb.size) (hbase i hi)).trans (hb.block i hi)⟩
    exact h4.setCell hgB _
  · refine ⟨by rw [size_set]; exact Nat.le_trans hk.1 hgr.size, fun i hi hn => ?_⟩
    rw [Below.heap_setCell _ _ _ _ (fun e => hn (by rw [e]; exact hPg)), hgr.block i (Nat.lt_of_lt_of_le hi hk.1) (fun e => hn (hL.1 i e.symm).1)]
    exact hk.2 i hi hn
theorem inBlock_then (id : Nat) (K : Act → World → Prop) (Q : Exit → Act → World → Prop) : Exit.inBlock id (Exit.then K Q) = Exit.then K (Exit.inBlock id (Exit.then K Q)) := by
  funext e a w
  cases e <;> rfl
end Go.Proofs.YtgholjhcbhcicaaDoor.PAll
