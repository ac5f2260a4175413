/- High and Low: the walk. -/
import Derived.Test.YtgholjhcbhcicaaDoorHalvesPure
namespace Go.Proofs.YtgholjhcbhcicaaDoor.PAll
open Go.RowKit Go.Proofs.YtgholjhcbhcicaaDoorW.PrintWords Go.Proofs.YtgholjhcbhcicaaDoorW.PrintLast Go.Proofs.YtgholjhcbhcicaaDoorW.PrintMore Go.Proofs.YtgholjhcbhcicaaDoor.Errs Go.Maps
set_option linter.unusedVariables false
set_option linter.unusedSimpArgs false
theorem sizes_h (v : Int) : ∀ n ∈ hNodes v, n.f4.size ≤ maxLen := by
  intro n hn
  simp only [hNodes, nd, List.mem_cons, List.not_mem_nil, or_false] at hn
  rcases hn with rfl | rfl | rfl | rfl | rfl | rfl | rfl <;> exact Nat.zero_le _
theorem sizes_n (v : Int) : ∀ n ∈ nNodes v, n.f4.size ≤ maxLen := by
  intro n hn
  simp only [nNodes, nd, List.mem_cons, List.not_mem_nil, or_false] at hn
  rcases hn with rfl | rfl | rfl | rfl <;> exact Nat.zero_le _
theorem sizes_g (v : Int) : ∀ n ∈ gNodes v, n.f4.size ≤ maxLen := by
  intro n hn
  simp only [gNodes, nd, List.mem_cons, List.not_mem_nil, or_false] at hn
  rcases hn with rfl | rfl <;> exact Nat.zero_le _
theorem C_none (w : World) : Kd.C k52 w none ([] : List S52).length [] := ⟨rfl, by decide, fun h => by simp at h⟩
set_option maxHeartbeats 1000000 in
set_option maxRecDepth 100000 in
theorem halves_any (v : Int) (h0 : 0 ≤ v) (h1 : v < 4294967296) (w : World) (hg : w.cell? ⟨0, 0, none⟩ = some (.iface 133 (.agg #[.pointer (some ⟨1, 40, none⟩)]))) : Calls Tryd.prog 7 #[.int .u32 v] w fun e w' => e = .returned (.bool true) ∧ Below w.heap.size w w' := by
  have hl0 : 0 < w.heap.size := World.block_lt_of_cell? w _ hg
  have HG := Aside0.mk hg
  clear hg
  go_enter Tryd.func7, Tryd.ntmps7
  go_wp2_with (fail)
  refine (awake_any _ HG.out).mono ?_
  rintro e w1 ⟨rfl, hb1⟩
  have HB1 := Aside0.mk hb1
  have hb2 := below_two w1 (.cells #[.int .i64 1, .int .i64 0, .int .i64 0, .int .u32 v, .string ⟨#[]⟩] 47) (.cells #[.int .i64 1, .int .i64 0, .int .i64 0, .int .u32 1, .string ⟨#[]⟩] 47)
  have HN2 := Aside0.mk (show ((w1.alloc (.cells #[.int .i64 1, .int .i64 0, .int .i64 0, .int .u32 v, .string ⟨#[]⟩] 47)).alloc (.cells #[.int .i64 1, .int .i64 0, .int .i64 0, .int .u32 1, .string ⟨#[]⟩] 47)).heap[w1.heap.size]? = some (.cells #[.int .i64 1, .int .i64 0, .int .i64 0, .int .u32 v, .string ⟨#[]⟩] 47 (0, 0)) from blk_alloc (heap_alloc_new w1 _) _)
  have HO2 := Aside0.mk (blk_two w1 (.cells #[.int .i64 1, .int .i64 0, .int .i64 0, .int .u32 v, .string ⟨#[]⟩] 47) (.cells #[.int .i64 1, .int .i64 0, .int .i64 0, .int .u32 1, .string ⟨#[]⟩] 47))
  have HB2 := Aside0.mk (below_step hb1 hb2)
  clear hb1 hb2
  go_wp2_with (fail)
  change Calls _ _ _ (World.alloc _ (.cells (List.flatMap ndV (hNodes v)).toArray 47)) _
  refine (value_lit 3 (hNodes v) [] 0 true none 0 v 0 none _ _ 7 0 (by simp) rfl rfl ?_ (C_none _) (sizes_h v) (fun s hs => by cases hs) (show (_ : Nat) < 100000 from by simp [hNodes]) (hv_eq v h0 h1)).mono ?_
  · exact (HB2.out.cell hl0).trans HG.out
  rintro e w3 ⟨ev1, rfl, he1, hb3⟩
  obtain rfl : ev1 = .nilIface := he1
  have HB3 := Aside0.mk (below_step HB2.out hb3)
  have hn3 := blk_below HN2.out hb3
  have ho3 := blk_below HO2.out hb3
  have a0 := blk_cell hn3 0
  have a1 := blk_cell hn3 1
  have a2 := blk_cell hn3 2
  have a3 := blk_cell hn3 3
  have a4 := blk_cell hn3 4
  have o0 := blk_cell ho3 0
  have o1 := blk_cell ho3 1
  have o2 := blk_cell ho3 2
  have o3 := blk_cell ho3 3
  have o4 := blk_cell ho3 4
  have HN3 := Aside0.mk hn3
  clear hb3 hn3 ho3
  go_wp2_with (fail)
  change Calls _ _ _ (World.alloc _ (.cells (List.flatMap ndV (nNodes v)).toArray 47)) _
  refine (value_lit 3 (nNodes v) [] 0 true none 0 _ 0 none _ _ 4 0 rfl rfl rfl ?_ (C_none _) (sizes_n v) (fun s hs => by cases hs) (show (_ : Nat) < 100000 from by simp [nNodes]) (nv_eq v h0 h1)).mono ?_
  · exact (HB3.out.cell hl0).trans HG.out
  rintro e w4 ⟨ev2, rfl, he2, hb4⟩
  obtain rfl : ev2 = .nilIface := he2
  have HB4 := Aside0.mk (below_step HB3.out hb4)
  have hn4 := blk_below HN3.out hb4
  have a0' := blk_cell hn4 0
  have a1' := blk_cell hn4 1
  have a2' := blk_cell hn4 2
  have a3' := blk_cell hn4 3
  have a4' := blk_cell hn4 4
  clear hb4 hn4 a0 a1 a2 a3 a4 o0 o1 o2 o3 o4
  go_wp2_with (fail)
  change Calls _ _ _ (World.alloc _ (.cells (List.flatMap ndV (gNodes v)).toArray 47)) _
  refine (value_lit 3 (gNodes v) [] 0 true none 0 _ 0 none _ _ 2 0 rfl rfl rfl ?_ (C_none _) (sizes_g v) (fun s hs => by cases hs) (show (_ : Nat) < 100000 from by simp [gNodes]) (gv_eq v h0 h1)).mono ?_
  · exact (HB4.out.cell hl0).trans HG.out
  rintro e w5 ⟨ev3, rfl, he3, hb5⟩
  obtain rfl : ev3 = .nilIface := he3
  have HB5 := Aside0.mk (below_step HB4.out hb5)
  clear hb5 a0' a1' a2' a3' a4'
  go_wp2_with (fail)
  go_ret
  have hz : ((-v + v) % 4294967296 == (0 : Int)) = true := by
    rw [beq_iff_eq]
    omega
  refine ⟨?_, HB5.out⟩
  show Ending.returned (Value.bool ((-v + v) % 4294967296 == (0 : Int))) = _
  rw [hz]
end Go.Proofs.YtgholjhcbhcicaaDoor.PAll
