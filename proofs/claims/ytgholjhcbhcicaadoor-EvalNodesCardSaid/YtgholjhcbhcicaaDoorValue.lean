/- What nodes come to. -/
import Derived.Test.YtgholjhcbhcicaaDoorNodeAll
import Derived.Test.YtgholjhcbhcicaaDoorFault
import Derived.Test.YtgholjhcbhcicaaDoorErrsCode
import Derived.BigRegion
import Derived.BigQuiet
import Derived.Deep.QuietTactic
namespace Go.Proofs.YtgholjhcbhcicaaDoor.PAll
open Go.RowKit Go.Proofs.YtgholjhcbhcicaaDoorW.PrintWords Go.Proofs.YtgholjhcbhcicaaDoorW.PrintLast Go.Proofs.YtgholjhcbhcicaaDoorW.PrintMore Go.Proofs.YtgholjhcbhcicaaDoor.Errs Go.Maps
set_option linter.unusedVariables false
set_option linter.unusedSimpArgs false
/-- The nodes, one after the other: the parts that are left, and the fault. -/
def runF (k : Nat) (syms : List S52) (place : Int) (early : Bool) : List S47 → List S86 → Option (List S86 × Option (Int × Int × Int))
  | [], left => some (left, none)
  | n :: t, left => (stepF k syms place early left n).bind fun r => if r.2 = 0 then runF k syms place early t r.1 else some (r.1, some (n.f1, n.f2, r.2))
/-- What nodes come to: value, class, fault. -/
def valueF (k : Nat) (l : List S47) (syms : List S52) (place : Int) (early : Bool) : Option (Int × Int × Option (Int × Int × Int)) :=
  (runF k syms place early l []).bind fun r => match r.2 with
    | some f => some (0, 0, some f)
    | none => if r.1.length = 1 then some ((rd_T86 r.1 0).f0, (rd_T86 r.1 0).f1, none)
      else some (0, 0, some (if l.length = 0 then (0, 0, 6) else ((rd_T47 l ((l.length : Int) - 1)).f1, (rd_T47 l ((l.length : Int) - 1)).f2, 6)))
theorem stepF_len {k : Nat} {syms : List S52} {place : Int} {early : Bool} {left left' : List S86} {n : S47} {code : Int} (h : stepF k syms place early left n = some (left', code)) : left'.length ≤ left.length + 1 := by
  unfold stepF at h
  split at h
  · simp only [Option.some.injEq, Prod.mk.injEq] at h
    rw [← h.1]
    omega
  · cases hr : nodeF k n left syms place early with
    | none => rw [hr] at h; simp at h
    | some r =>
      rw [hr] at h
      simp only [Option.bind_some, Option.some.injEq, Prod.mk.injEq] at h
      rw [← h.1]
      split
      · simp
        try omega
      · omega
/-- At the head of the loop. -/
def RunAt (w wr : World) (k : Nat) (l : List S47) (A : Option Addr) (c : Nat) (syms : List S52) (place : Int) (early : Bool) (r : List S86 × Option (Int × Int × Int)) (i : Nat) : Prop :=
  ∃ asked left, runF k syms place early (l.drop i) left = some r ∧ asked ≤ (i : Int) ∧ left.length ≤ i ∧ RS w wr (fun j => w.heap.size ≤ j) w.heap.size A c syms place early asked left ∧ Below w.heap.size w wr
set_option maxHeartbeats 8000000 in
set_option maxRecDepth 100000 in
theorem value_any (k : Nat) (l : List S47) (syms : List S52) (place : Int) (early : Bool) (A0 A : Option Addr) (c0 c : Nat) (v cl : Int) (f : Option (Int × Int × Int)) (w : World) (hg : w.cell? ⟨0, 0, none⟩ = some (.iface 133 (.agg #[.pointer (some ⟨1, 40, none⟩)])))
    (hl : Kd.C k47 w A0 l.length l) (hS : Kd.C k52 w A syms.length syms) (hn : ∀ n ∈ l, n.f4.size ≤ maxLen) (hss : ∀ s ∈ syms, s.f0.size ≤ maxLen) (hlen : l.length < 100000) (hf : valueF k l syms place early = some (v, cl, f)) :
    Calls Tryd.prog 12 #[.slice A0 l.length c0, .slice A syms.length c, .int .u32 place, .bool early] w fun e w' => ∃ ev, e = .returned (.tuple #[.int .u32 v, .int .i64 cl, ev]) ∧ ErrAt w' ev f ∧ Below w.heap.size w w' := by
  have hl0 : 0 < w.heap.size := World.block_lt_of_cell? w _ hg
  have HL := Aside0.mk hl
  have HS := Aside0.mk hS
  have HN := Aside0.mk hn
  have HSS := Aside0.mk hss
  have HG := Aside0.mk hg
  unfold valueF at hf
  cases hr : runF k syms place early l [] with
  | none => rw [hr] at hf; simp at hf
  | some r =>
  rw [hr] at hf
  simp only [Option.bind_some] at hf
  have HF := Aside0.mk hf
  have hst : RunAt w (w.alloc (.cells #[.slice A syms.length c, .map none, .int .u32 place, .bool early, .int .i64 0, .slice none 0 0] 77)) k l A c syms place early r 0 :=
    ⟨0, [], hr, Int.le_refl _, Nat.le_refl _, ⟨.map none, .slice none 0 0, Nat.le_refl _, Nat.le_refl _, heap_alloc_new _ _, Int.le_refl _, by omega, .inl ⟨by omega, rfl⟩, Kd.R_nil _ _ _ _ _⟩, (Below.refl _ _).alloc (Nat.le_refl _) _⟩
  have HST := Aside0.mk hst
  clear hl hS hn hss hg hf hr hst
  go_enter Tryd.func12, Tryd.ntmps12
  go_wp2_with (fail)
  go_loopw [13, 14, 24] (fun v13 v14 v24 wr => ∃ i : Nat, i ≤ l.length ∧ v24 = .int .i64 (i : Int) ∧ Aside0 (RunAt w wr k l A c syms place early r i)) (fun _ _ v24 _ => l.length - (intOf v24).toNat)
  case atStart => exact ⟨0, by omega, rfl, ⟨HST.out⟩⟩
  case round =>
    obtain ⟨i, hi, rfl, HR⟩ := hrel
    obtain ⟨asked, left, hrun, hask, hll, hI, hb⟩ := HR.out
    have HI := Aside0.mk hI
    have HB := Aside0.mk hb
    have HRUN := Aside0.mk hrun
    by_cases hlt : i < l.length
    · obtain ⟨ad, rfl, x0, x1, x2, x3, x4⟩ := at_T47 (Kd.C_below HL.out hb) i (by omega) (by omega)
      simp only [Int.toNat_natCast] at x0 x1 x2 x3 x4
      have hx : rd_T47 l (i : Int) = l[i] := by simp [rd_T47, List.getD_eq_getElem?_getD, List.getElem?_eq_getElem hlt]
      have HNM := Aside0.mk (show (rd_T47 l (i : Int)).f4.size ≤ maxLen from HN.out _ (by rw [hx]; exact List.getElem_mem hlt))
      rw [List.drop_eq_getElem_cons hlt, ← hx] at hrun
      simp only [runF] at hrun
      cases hs : stepF k syms place early left (rd_T47 l (i : Int)) with
      | none => rw [hs] at hrun; simp at hrun
      | some st =>
      obtain ⟨left', code⟩ := st
      rw [hs] at hrun
      simp only [Option.bind_some] at hrun
      have HRUN' := Aside0.mk hrun
      have HSTEP := Aside0.mk hs
      clear hrun hs hx hI hb
      go_wp2_with (fail)
      have hbW := below_two wr (.cells #[.int .i64 (rd_T47 l (i : Int)).f0, .int .i64 (rd_T47 l (i : Int)).f1, .int .i64 (rd_T47 l (i : Int)).f2, .int .u32 (rd_T47 l (i : Int)).f3, .string (rd_T47 l (i : Int)).f4] 47) (.cells #[.int .i64 0] 78)
      have hpW := blk_two wr (.cells #[.int .i64 (rd_T47 l (i : Int)).f0, .int .i64 (rd_T47 l (i : Int)).f1, .int .i64 (rd_T47 l (i : Int)).f2, .int .u32 (rd_T47 l (i : Int)).f3, .string (rd_T47 l (i : Int)).f4] 47) (.cells #[.int .i64 0] 78)
      have hnW : ((wr.alloc (.cells #[.int .i64 (rd_T47 l (i : Int)).f0, .int .i64 (rd_T47 l (i : Int)).f1, .int .i64 (rd_T47 l (i : Int)).f2, .int .u32 (rd_T47 l (i : Int)).f3, .string (rd_T47 l (i : Int)).f4] 47)).alloc (.cells #[.int .i64 0] 78)).heap[wr.heap.size]? = some (.cells #[.int .i64 (rd_T47 l (i : Int)).f0, .int .i64 (rd_T47 l (i : Int)).f1, .int .i64 (rd_T47 l (i : Int)).f2, .int .u32 (rd_T47 l (i : Int)).f3, .string (rd_T47 l (i : Int)).f4] 47 (0, 0)) := blk_alloc (heap_alloc_new wr _) _
      have hsW : ((wr.alloc (.cells #[.int .i64 (rd_T47 l (i : Int)).f0, .int .i64 (rd_T47 l (i : Int)).f1, .int .i64 (rd_T47 l (i : Int)).f2, .int .u32 (rd_T47 l (i : Int)).f3, .string (rd_T47 l (i : Int)).f4] 47)).alloc (.cells #[.int .i64 0] 78)).heap.size = wr.heap.size + 2 := by simp
      generalize ((wr.alloc (.cells #[.int .i64 (rd_T47 l (i : Int)).f0, .int .i64 (rd_T47 l (i : Int)).f1, .int .i64 (rd_T47 l (i : Int)).f2, .int .u32 (rd_T47 l (i : Int)).f3, .string (rd_T47 l (i : Int)).f4] 47)).alloc (.cells #[.int .i64 0] 78)) = W at *
      refine (node_any (fun j => (w.heap.size ≤ j ∧ j < wr.heap.size) ∨ W.heap.size ≤ j) w.heap.size A c syms place early k asked left left' (rd_T47 l (i : Int)) code HNM.out HSS.out w W (below_weaken HB.out HB.out.size hbW) HS.out (RS_below (RS_mono HI.out (fun j hj _ hlt => .inl ⟨hj, hlt⟩)) hbW) (fun j hj => .inr hj) (by omega) (by omega) HSTEP.out).mono ?_
      rintro e w1 ⟨rfl, ⟨asked', ha1, ha2, hI1⟩, hb1, hk1⟩
      have hp1 : w1.heap[wr.heap.size + 1]? = some (.cells #[.int .i64 0] 78 (0, 0)) := (hk1.2 _ (by omega) (by omega)).trans hpW
      have hn1 : w1.heap[wr.heap.size]? = some (.cells #[.int .i64 (rd_T47 l (i : Int)).f0, .int .i64 (rd_T47 l (i : Int)).f1, .int .i64 (rd_T47 l (i : Int)).f2, .int .u32 (rd_T47 l (i : Int)).f3, .string (rd_T47 l (i : Int)).f4] 47 (0, 0)) := (hk1.2 _ (by omega) (by omega)).trans hnW
      have hg1 : w1.cell? ⟨0, 0, none⟩ = some (.iface 133 (.agg #[.pointer (some ⟨1, 40, none⟩)])) := (hb1.cell hl0).trans HG.out
      have hll' := stepF_len HSTEP.out
      have HI1 := Aside0.mk (RS_mono (P' := fun j => w.heap.size ≤ j) hI1 (fun j _ hj _ => hj))
      have HB1 := Aside0.mk hb1
      have HP1 := Aside0.mk hp1
      have HN1 := Aside0.mk hn1
      have HG1 := Aside0.mk hg1
      clear hbW hpW hnW hsW hI1 hb1 hk1 hp1 hn1 hg1 x0 x1 x2 x3 x4
      by_cases k0 : code = 0
      · subst k0
        rw [show codeV 0 = .nilIface from rfl]
        go_wp2_with (fail)
        refine (as_nil _ _).mono ?_
        rintro e w2 ⟨rfl, rfl⟩
        go_wp2_with (fail)
        go_roundw
        case rel =>
          refine ⟨i + 1, by omega, by go_num, ⟨asked', left', ?_, by omega, by omega, HI1.out, HB1.out⟩⟩
          have := HRUN'.out
          simpa using this
        case measure => simp [intOf]; omega
      · have hcv : codeV code = .iface 78 (.int .i64 code) := if_neg k0
        rw [hcv]
        go_wp2_with (fail)
        refine (asCode.hit code (wr.heap.size + 1) _ _ w1 HG1.out HP1.out).mono ?_
        rintro e w2 ⟨rfl, hgr, hp2⟩
        have hn2 := (hgr.block wr.heap.size (Array.getElem?_eq_some_iff.1 HN1.out).1 (by simp)).trans HN1.out
        have z0 : w2.cell? ⟨wr.heap.size + 1, 0, none⟩ = some (.int .i64 code) := (blk_cell hp2 0).trans rfl
        have z1 : w2.cell? ⟨wr.heap.size, 1, none⟩ = some (.int .i64 (rd_T47 l (i : Int)).f1) := (blk_cell hn2 1).trans rfl
        have z2 : w2.cell? ⟨wr.heap.size, 2, none⟩ = some (.int .i64 (rd_T47 l (i : Int)).f2) := (blk_cell hn2 2).trans rfl
        have hbsz := HB.out.size
        have HB2 := Aside0.mk (HB1.out.grown hgr (by have := HB1.out.size; omega) (fun j hj => by cases hj; omega))
        clear hgr hp2 hn2 hbsz hcv
        go_wp2_with (fail)
        go_region
        have hr' : some (left', some ((rd_T47 l (i : Int)).f1, (rd_T47 l (i : Int)).f2, code)) = some r := by
          have := HRUN'.out
          rwa [if_neg k0] at this
        simp only [Option.some.injEq] at hr'
        have hf' := HF.out
        rw [← hr'] at hf'
        simp only [Option.some.injEq, Prod.mk.injEq] at hf'
        obtain ⟨rfl, rfl, rfl⟩ := hf'
        all_goals go_wp2_with (fail)
        refine bodyPost_ret (v := .tuple #[.int .u32 0, .int .i64 0, .iface 82 (.pointer (some ⟨w2.heap.size, 0, none⟩))]) (by simp [results, Tryd.results12, go_sem]) rfl ?_
        exact ⟨_, rfl, ⟨w2.heap.size, rfl, heap_alloc_new w2 _⟩, below_drew1 (HB2.out.alloc HB2.out.size _)⟩
    · have hie : i = l.length := by omega
      subst hie
      have hr' : some (left, none) = some r := by
        have := HRUN.out
        rw [List.drop_length] at this
        exact this
      simp only [Option.some.injEq] at hr'
      have hf' := HF.out
      rw [← hr'] at hf'
      simp only at hf'
      clear HF HRUN HR hrun
      have hI0 := HI.out
      obtain ⟨nm, lv, _, _, hgb, _, _, _, hL⟩ := hI0
      obtain ⟨L, cc, rfl⟩ := Kd.R_slice hL
      obtain ⟨_, hlc, hC⟩ := Kd.R_reads' hL
      have c5 : wr.cell? ⟨w.heap.size, 5, none⟩ = some (.slice L left.length cc) := (blk_cell hgb 5).trans rfl
      clear hL hgb hI hb
      by_cases h1 : left.length = 1
      · rw [if_pos h1] at hf'
        simp only [Option.some.injEq, Prod.mk.injEq] at hf'
        obtain ⟨hv, hcl, rfl⟩ := hf'
        obtain ⟨ad, rfl, y0, y1⟩ := at_T86 hC 0 (by omega) (by omega)
        simp only [Int.toNat_zero, Nat.zero_mul] at y0 y1
        rw [show ad.add 0 = ad from by simp [Addr.add]] at y0 y1
        rw [hv] at y0
        rw [hcl] at y1
        rw [h1] at c5
        clear hC
        go_wp2_with (fail)
        go_quiet (fail)
        go_wp2_with (fail)
        refine bodyPost_ret (v := .tuple #[.int .u32 v, .int .i64 cl, .nilIface]) (by simp [results, Tryd.results12, go_sem]) rfl ?_
        exact ⟨_, rfl, rfl, pw_below_drewN HB.out nq⟩
      · rw [if_neg h1] at hf'
        simp only [Option.some.injEq, Prod.mk.injEq] at hf'
        obtain ⟨rfl, rfl, hf3⟩ := hf'
        have h1i : ¬ ((left.length : Int) = 1) := by omega
        clear hC
        by_cases h0 : l.length = 0
        · have h0i : (l.length : Int) = 0 := by omega
          rw [if_pos h0] at hf3
          subst hf3
          go_wp2_with (fail)
          refine bodyPost_ret (v := .tuple #[.int .u32 0, .int .i64 0, .iface 82 (.pointer (some ⟨wr.heap.size, 0, none⟩))]) (by simp [results, Tryd.results12, go_sem]) rfl ?_
          exact ⟨_, rfl, ⟨wr.heap.size, rfl, heap_alloc_new wr _⟩, HB.out.alloc HB.out.size _⟩
        · rw [if_neg h0] at hf3
          subst hf3
          obtain ⟨ad, rfl, x0, x1, x2, x3, x4⟩ := at_T47 (Kd.C_below HL.out (HB.out.alloc HB.out.size (.cells #[.int .i64 0, .int .i64 0, .iface 78 (.int .i64 6)] 84))) ((l.length : Int) - 1) (by omega) (by omega)
          have hnat : ((l.length : Int) - 1).toNat = l.length - 1 := by omega
          rw [hnat] at x0 x1 x2 x3 x4
          go_wp2_with (fail)
          go_region
          all_goals go_wp2_with (fail)
          refine bodyPost_ret (v := .tuple #[.int .u32 0, .int .i64 0, .iface 82 (.pointer (some ⟨wr.heap.size, 0, none⟩))]) (by simp [results, Tryd.results12, go_sem]) rfl ?_
          have hbz := below_two wr (.cells #[.int .i64 (rd_T47 l ((l.length : Int) - 1)).f1, .int .i64 (rd_T47 l ((l.length : Int) - 1)).f2, .iface 78 (.int .i64 6)] 84) (.cells #[.int .i64 (rd_T47 l ((l.length : Int) - 1)).f0, .int .i64 (rd_T47 l ((l.length : Int) - 1)).f1, .int .i64 (rd_T47 l ((l.length : Int) - 1)).f2, .int .u32 (rd_T47 l ((l.length : Int) - 1)).f3, .string (rd_T47 l ((l.length : Int) - 1)).f4] 47)
          exact ⟨_, rfl, ⟨wr.heap.size, rfl, blk_drew (blk_alloc (heap_alloc_new wr _) _)⟩, below_drew1 (HB.out.trans (hbz.mono HB.out.size))⟩
end Go.Proofs.YtgholjhcbhcicaaDoor.PAll
