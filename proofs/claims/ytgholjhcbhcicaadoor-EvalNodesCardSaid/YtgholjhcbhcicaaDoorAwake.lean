/- The law's ground: what a few nodes come to. -/
import Derived.Test.YtgholjhcbhcicaaDoorValue
namespace Go.Proofs.YtgholjhcbhcicaaDoor.PAll
open Go.RowKit Go.Proofs.YtgholjhcbhcicaaDoorW.PrintWords Go.Proofs.YtgholjhcbhcicaaDoorW.PrintLast Go.Proofs.YtgholjhcbhcicaaDoorW.PrintMore Go.Proofs.YtgholjhcbhcicaaDoor.Errs Go.Maps
set_option linter.unusedVariables false
set_option linter.unusedSimpArgs false
/-- A block known whole is read as a list. -/
theorem C_blk {α : Type} {d : Kd α} {w : World} {B t : Nat} {cs : List Value} {xs : List α} (h : w.heap[B]? = some (.cells cs.toArray t (0, 0))) (hr : Reps (d.K w) d.sz xs cs) (hl : xs.length ≤ 9223372036854775807) : Kd.C d w (some ⟨B, 0, none⟩) xs.length xs := by
  refine ⟨rfl, hl, fun _ => ⟨⟨B, 0, none⟩, rfl, fun j p hj => ⟨(cs.drop (j * d.sz)).take d.sz, d.K_len (hr.2 j p hj), hr.2 j p hj, fun i u hu => ?_⟩⟩⟩
  have hu2 : cs[j * d.sz + i]? = some u := by
    rw [List.getElem?_take] at hu
    split at hu
    · rwa [List.getElem?_drop] at hu
    · cases hu
  have ha : (⟨B, 0, none⟩ : Addr).add (j * d.sz + i) = ⟨B, j * d.sz + i, none⟩ := by
    unfold Addr.add
    split
    · rename_i h0; rw [h0]
    · simp
  rw [ha, blk_cell h]
  simpa using hu2
def xName : ByteArray := { data := #[120] }
def nd (a b c d : Int) (s : ByteArray) : S47 := ⟨a, b, c, d, s⟩
def ndV (n : S47) : List Value := [.int .i64 n.f0, .int .i64 n.f1, .int .i64 n.f2, .int .u32 n.f3, .string n.f4]
theorem reps_nodes (w : World) : ∀ l : List S47, Reps (k47.K w) k47.sz l (l.flatMap ndV)
  | [] => Reps.none _ _
  | x :: t => Reps.c5 (k47_mk w x) (reps_nodes w t)
def aSyms : List S52 := [⟨xName, 100, 1⟩]
theorem reps_syms (w : World) : Reps (k52.K w) k52.sz aSyms [.string xName, .int .u32 100, .int .i64 1] := Reps.c3 (k52_mk w ⟨xName, 100, 1⟩) (Reps.none _ _)
theorem xSize : xName.size ≤ maxLen := by decide
theorem aSizes : ∀ s ∈ aSyms, s.f0.size ≤ maxLen := by
  intro s hs
  simp only [aSyms, List.mem_singleton] at hs
  subst hs
  exact xSize
theorem nSizes1 : ∀ n ∈ [nd 2 3 0 0 xName, nd 1 0 0 4 ⟨#[]⟩, nd 10 0 0 0 ⟨#[]⟩], n.f4.size ≤ maxLen := by
  intro n hn
  simp only [List.mem_cons, List.not_mem_nil, or_false] at hn
  rcases hn with rfl | rfl | rfl <;> decide
theorem nSizes2 : ∀ n ∈ [nd 2 3 0 0 xName, nd 2 3 0 0 xName, nd 10 0 0 0 ⟨#[]⟩], n.f4.size ≤ maxLen := by
  intro n hn
  simp only [List.mem_cons, List.not_mem_nil, or_false] at hn
  rcases hn with rfl | rfl | rfl <;> decide
theorem nSizes3 : ∀ n ∈ [nd 2 3 0 0 xName, nd 2 3 0 0 xName, nd 9 2 5 0 ⟨#[]⟩], n.f4.size ≤ maxLen := by
  intro n hn
  simp only [List.mem_cons, List.not_mem_nil, or_false] at hn
  rcases hn with rfl | rfl | rfl <;> decide
theorem plainX : plainF (nd 2 3 0 0 xName) aSyms 0 false = (100, 1, 0) := by
  have h : symIdx aSyms xName = some 0 := by simp [symIdx, aSyms, List.findIdx?_cons]
  unfold plainF
  rw [if_neg (by decide), if_neg (by decide)]
  show (match symIdx aSyms xName with | none => _ | some i => _) = _
  rw [h]
  rfl
theorem stepX (left : List S86) : stepF 3 aSyms 0 false left (nd 2 3 0 0 xName) = some (left ++ [⟨100, 1⟩], 0) := by
  have hp : partsOf (nd 2 3 0 0 xName).f0 = 0 := by decide
  unfold stepF nodeF
  rw [hp, if_neg (by omega), if_pos rfl, plainX]
  simp
theorem aw1 : valueF 3 [nd 2 3 0 0 xName, nd 1 0 0 4 ⟨#[]⟩, nd 10 0 0 0 ⟨#[]⟩] aSyms 0 false = some (96, 1, none) := by
  unfold valueF
  simp only [runF, stepX, Option.bind_some, List.nil_append]
  rfl
theorem aw2 : valueF 3 [nd 2 3 0 0 xName, nd 2 3 0 0 xName, nd 10 0 0 0 ⟨#[]⟩] aSyms 0 false = some (0, 0, none) := by
  unfold valueF
  simp only [runF, stepX, Option.bind_some, List.nil_append]
  rfl
theorem aw3 : valueF 3 [nd 2 3 0 0 xName, nd 2 3 0 0 xName, nd 9 2 5 0 ⟨#[]⟩] aSyms 0 false = some (0, 0, some (2, 5, 7)) := by
  unfold valueF
  simp only [runF, stepX, Option.bind_some, List.nil_append]
  rfl
/-- eval.Value of nodes that are laid out for it. -/
theorem value_lit (k : Nat) (l : List S47) (syms : List S52) (place : Int) (early : Bool) (A : Option Addr) (c : Nat) (v cl : Int) (f : Option (Int × Int × Int)) (w : World) (B m m' : Nat) (hB : w.heap.size = B) (hm : l.length = m) (hm' : syms.length = m') (hg : w.cell? ⟨0, 0, none⟩ = some (.iface 133 (.agg #[.pointer (some ⟨1, 40, none⟩)])))
    (hS : Kd.C k52 w A syms.length syms) (hn : ∀ n ∈ l, n.f4.size ≤ maxLen) (hss : ∀ s ∈ syms, s.f0.size ≤ maxLen) (hlen : l.length < 100000) (hf : valueF k l syms place early = some (v, cl, f)) :
    Calls Tryd.prog 12 #[.slice (some ⟨B, 0, none⟩) m m, .slice A m' c, .int .u32 place, .bool early] (w.alloc (.cells (l.flatMap ndV).toArray 47)) fun e w' => ∃ ev, e = .returned (.tuple #[.int .u32 v, .int .i64 cl, ev]) ∧ ErrAt w' ev f ∧ Below w.heap.size w w' := by
  subst hB hm hm'
  have hb : Below w.heap.size w (w.alloc (.cells (l.flatMap ndV).toArray 47)) := (Below.refl _ _).alloc (Nat.le_refl _) _
  refine (value_any k l syms place early _ A l.length c v cl f _ ((hb.cell (World.block_lt_of_cell? w _ hg)).trans hg) (C_blk (heap_alloc_new w _) (reps_nodes _ _) (by omega)) (Kd.C_below hS hb) hn hss hlen hf).mono ?_
  rintro e w' ⟨ev, he, hr, hbw⟩
  exact ⟨ev, he, hr, below_step hb hbw⟩
set_option maxHeartbeats 1000000 in
set_option maxRecDepth 100000 in
theorem awake_any (w : World) (hg : w.cell? ⟨0, 0, none⟩ = some (.iface 133 (.agg #[.pointer (some ⟨1, 40, none⟩)]))) : Calls Tryd.prog 8 #[] w fun e w' => e = .returned (.bool true) ∧ Below w.heap.size w w' := by
  have HG := Aside0.mk hg
  clear hg
  go_enter Tryd.func8, Tryd.ntmps8
  have h0 : w.cell? ⟨0, 0, none⟩ = _ := HG.out
  have hl0 : 0 < w.heap.size := World.block_lt_of_cell? w _ h0
  have hb0 := below_two w (.cells #[.string { data := #[120] }, .int .u32 100, .int .i64 1] 52) (.cells #[.int .i64 2, .int .i64 3, .int .i64 0, .int .u32 0, .string { data := #[120] }] 47)
  have hs0 : ((w.alloc (.cells #[.string { data := #[120] }, .int .u32 100, .int .i64 1] 52)).alloc (.cells #[.int .i64 2, .int .i64 3, .int .i64 0, .int .u32 0, .string { data := #[120] }] 47)).heap[w.heap.size]? = some (.cells #[.string { data := #[120] }, .int .u32 100, .int .i64 1] 52 (0, 0)) := blk_alloc (heap_alloc_new w _) _
  have ha0 := blk_two w (.cells #[.string { data := #[120] }, .int .u32 100, .int .i64 1] 52) (.cells #[.int .i64 2, .int .i64 3, .int .i64 0, .int .u32 0, .string { data := #[120] }] 47)
  have HB0 := Aside0.mk hb0
  have HS0 := Aside0.mk hs0
  have HA0 := Aside0.mk ha0
  have H0 := Aside0.mk h0
  clear hb0 hs0 ha0 h0
  go_wp2_with (fail)
  change Calls _ _ _ (World.alloc _ (.cells (List.flatMap ndV [nd 2 3 0 0 xName, nd 1 0 0 4 ⟨#[]⟩, nd 10 0 0 0 ⟨#[]⟩]).toArray 47)) _
  refine (value_lit 3 [nd 2 3 0 0 xName, nd 1 0 0 4 ⟨#[]⟩, nd 10 0 0 0 ⟨#[]⟩] aSyms 0 false _ 1 96 1 none _ _ 3 1 (by simp) rfl rfl ?_ ?_ nSizes1 aSizes (by decide) aw1).mono ?_
  · exact (HB0.out.cell hl0).trans H0.out
  · exact C_blk HS0.out (reps_syms _) (by decide)
  rintro e w1 ⟨ev1, rfl, he1, hb1⟩
  obtain rfl : ev1 = .nilIface := he1
  have HB1 := Aside0.mk (below_step HB0.out hb1)
  have HS1 := Aside0.mk (blk_below HS0.out hb1)
  have ha1 := blk_below HA0.out hb1
  have a0 := blk_cell ha1 0
  have a1 := blk_cell ha1 1
  have a2 := blk_cell ha1 2
  have a3 := blk_cell ha1 3
  have a4 := blk_cell ha1 4
  have HA1 := Aside0.mk ha1
  clear hb1 ha1
  go_wp2_with (fail)
  change Calls _ _ _ (World.alloc _ (.cells (List.flatMap ndV [nd 2 3 0 0 xName, nd 2 3 0 0 xName, nd 10 0 0 0 ⟨#[]⟩]).toArray 47)) _
  refine (value_lit 3 [nd 2 3 0 0 xName, nd 2 3 0 0 xName, nd 10 0 0 0 ⟨#[]⟩] aSyms 0 false _ 1 0 0 none _ _ 3 1 (by simp) rfl rfl ?_ ?_ nSizes2 aSizes (by decide) aw2).mono ?_
  · exact (HB1.out.cell hl0).trans H0.out
  · exact C_blk HS1.out (reps_syms _) (by decide)
  rintro e w2 ⟨ev2, rfl, he2, hb2⟩
  obtain rfl : ev2 = .nilIface := he2
  have HB2 := Aside0.mk (below_step HB1.out hb2)
  have HS2 := Aside0.mk (blk_below HS1.out hb2)
  have ha2 := blk_below HA1.out hb2
  have a0' := blk_cell ha2 0
  have a1' := blk_cell ha2 1
  have a2' := blk_cell ha2 2
  have a3' := blk_cell ha2 3
  have a4' := blk_cell ha2 4
  clear hb2 ha2 a0 a1 a2 a3 a4
  go_wp2_with (fail)
  change Calls _ _ _ (World.alloc _ (.cells (List.flatMap ndV [nd 2 3 0 0 xName, nd 2 3 0 0 xName, nd 9 2 5 0 ⟨#[]⟩]).toArray 47)) _
  refine (value_lit 3 [nd 2 3 0 0 xName, nd 2 3 0 0 xName, nd 9 2 5 0 ⟨#[]⟩] aSyms 0 false _ 1 0 0 (some (2, 5, 7)) _ _ 3 1 (by simp) rfl rfl ?_ ?_ nSizes3 aSizes (by decide) aw3).mono ?_
  · exact (HB2.out.cell hl0).trans H0.out
  · exact C_blk HS2.out (reps_syms _) (by decide)
  rintro e w3 ⟨ev3, rfl, he3, hb3⟩
  have HB3 := Aside0.mk (below_step HB2.out hb3)
  have HE3 := Aside0.mk he3
  clear hb3 he3 a0' a1' a2' a3' a4'
  go_wp2_with (fail)
  refine (fault_any ev3 (some (2, 5, 7)) w3 ((HB3.out.cell hl0).trans H0.out) HE3.out (by
    intro l c k h
    simp only [Option.some.injEq, Prod.mk.injEq] at h
    omega)).mono ?_
  rintro e w4 ⟨rfl, hb4⟩
  have HB4 := Aside0.mk (below_step HB3.out hb4)
  clear hb4
  unfold faultOf
  go_wp2_with (fail)
  go_ret
  exact ⟨rfl, HB4.out⟩
end Go.Proofs.YtgholjhcbhcicaaDoor.PAll
