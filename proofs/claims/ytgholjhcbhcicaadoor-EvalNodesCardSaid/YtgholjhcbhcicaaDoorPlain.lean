/- A node without parts. -/
import Derived.Test.YtgholjhcbhcicaaDoorMake
namespace Go.Proofs.YtgholjhcbhcicaaDoor.PAll
open Go.RowKit Go.Proofs.YtgholjhcbhcicaaDoorW.PrintWords Go.Proofs.YtgholjhcbhcicaaDoorW.PrintLast Go.Proofs.YtgholjhcbhcicaaDoorW.PrintMore Go.Proofs.YtgholjhcbhcicaaDoor.Errs Go.Maps
set_option linter.unusedVariables false
set_option linter.unusedSimpArgs false
theorem RS_mono {w0 w : World} {P P' : Nat → Prop} {g : Nat} {A : Option Addr} {c : Nat} {syms : List S52} {place : Int} {early : Bool} {asked : Int} {left : List S86} (h : RS w0 w P g A c syms place early asked left) (hp : ∀ k, P k → w0.heap.size ≤ k → k < w.heap.size → P' k) : RS w0 w P' g A c syms place early asked left := by
  obtain ⟨nm, lv, hPg, hgB, hg, h0, h1, hN, hL⟩ := h
  have hgl : g < w.heap.size := (Array.getElem?_eq_some_iff.1 hg).1
  refine ⟨nm, lv, hp g hPg hgB hgl, hgB, hg, h0, h1, ?_, ?_⟩
  · rcases hN with h | ⟨h8, mb, n, rfl, hPm, hmB, hmg, hown⟩
    · exact .inl h
    · exact .inr ⟨h8, mb, n, rfl, hp mb hPm hmB hown.lt, hmB, hmg, hown⟩
  · exact Kd.R_mono (Kd.R_bound hL) (fun k hk => ⟨hp k hk.1.1 hk.2.1 hk.2.2.1, hk.1.2⟩)
theorem RS_step {w0 w w1 : World} {P : Nat → Prop} {g : Nat} {A : Option Addr} {c : Nat} {syms : List S52} {place : Int} {early : Bool} {asked : Int} {left : List S86} (h : RS w0 w P g A c syms place early asked left) (hs : w.heap.size ≤ w1.heap.size) (hp : ∀ k, P k → k < w.heap.size → w1.heap[k]? = w.heap[k]?) : RS w0 w1 P g A c syms place early asked left := by
  obtain ⟨nm, lv, hPg, hgB, hg, h0, h1, hN, hL⟩ := h
  have hgl : g < w.heap.size := (Array.getElem?_eq_some_iff.1 hg).1
  refine ⟨nm, lv, hPg, hgB, (hp g hPg hgl).trans hg, h0, h1, ?_, Kd.R_step hL (fun k hk hlt => hp k hk.1 hlt)⟩
  rcases hN with h | ⟨h8, mb, n, rfl, hPm, hmB, hmg, hown⟩
  · exact .inl h
  · refine .inr ⟨h8, mb, n, rfl, hPm, hmB, hmg, ?_⟩
    have hl := hown.lt
    unfold World.ownsMap at hown ⊢
    rwa [hp mb hPm hl]
theorem RS_below {w0 w w1 : World} {P : Nat → Prop} {g : Nat} {A : Option Addr} {c : Nat} {syms : List S52} {place : Int} {early : Bool} {asked : Int} {left : List S86} (h : RS w0 w P g A c syms place early asked left) (hb : Below w.heap.size w w1) : RS w0 w1 P g A c syms place early asked left :=
  RS_step h hb.size (fun k _ hk => hb.block k hk)
/-- What a node without parts comes to: value, class, code. -/
def plainF (n : S47) (syms : List S52) (place : Int) (early : Bool) : Int × Int × Int :=
  if n.f0 = 1 then (n.f3, 0, 0)
  else if n.f0 = 3 then (if early = true then (0, 0, 7) else (place, 1, 0))
  else match symIdx syms n.f4 with
    | none => (0, 0, 11)
    | some i => if (rd_T52 syms (i : Int)).f2 = 1 ∧ early = true then (0, 0, 7) else ((rd_T52 syms (i : Int)).f1, (rd_T52 syms (i : Int)).f2, 0)
def partV (r : Int × Int × Int) : Value := .tuple #[.agg #[.int .u32 r.1, .int .i64 r.2.1], .int .i64 r.2.2]
/-- How it ends. -/
def PlainEnd (w0 w : World) (P : Nat → Prop) (g : Nat) (A : Option Addr) (c : Nat) (syms : List S52) (place : Int) (early : Bool) (asked : Int) (left : List S86) (w' : World) : Prop :=
  (∃ asked', asked ≤ asked' ∧ asked' ≤ asked + 1 ∧ RS w0 w' P g A c syms place early asked' left) ∧ Below w0.heap.size w0 w' ∧ Kept w w' P
theorem plainEnd_of {w0 w w1 w2 : World} {P Q : Nat → Prop} {g : Nat} {A : Option Addr} {c : Nat} {syms : List S52} {place : Int} {early : Bool} {asked asked' : Int} {left : List S86} (hB : Below w0.heap.size w0 w) (h1 : asked ≤ asked') (h2 : asked' ≤ asked + 1) (hI : RS w0 w1 Q g A c syms place early asked' left) (hb1 : Below w0.heap.size w0 w1) (hk1 : Kept w w1 P) (hQ : ∀ k, Q k → k ≠ w.heap.size + 1) (hQP : ∀ k, Q k → P k)
    (hb : Below w.heap.size w1 w2) (hk : KeepBut w1 w2 (w.heap.size + 1) none) : PlainEnd w0 w P g A c syms place early asked left w2 := by
  refine ⟨⟨asked', h1, h2, RS_mono (RS_step hI hb.size (fun k hq hlt => hk.2 k hlt (hQ k hq) (by simp))) (fun k hq _ _ => hQP k hq)⟩, ?_, ?_⟩
  · exact hb1.trans (hb.mono hB.size)
  · exact ⟨Nat.le_trans hk1.1 hb.size, fun i hi hn => (hb.block i hi).trans (hk1.2 i hi hn)⟩
theorem below_two (w : World) (o1 o2 : Obj) : Below w.heap.size w ((w.alloc o1).alloc o2) := ((Below.refl _ _).alloc (Nat.le_refl _) o1).alloc (by simp) o2
theorem blk_two (w : World) (o1 o2 : Obj) : ((w.alloc o1).alloc o2).heap[w.heap.size + 1]? = some o2 := by
  have := heap_alloc_new (w.alloc o1) o2
  simpa using this
theorem kept_refl (w : World) (P : Nat → Prop) : Kept w w P := ⟨Nat.le_refl _, fun _ _ _ => rfl⟩
theorem kept_two {w w1 : World} {P : Nat → Prop} {o1 o2 : Obj} (h : Kept ((w.alloc o1).alloc o2) w1 (fun k => (P k ∧ k < w.heap.size) ∨ w.heap.size + 2 ≤ k)) : Kept w w1 P := by
  have hb := below_two w o1 o2
  exact ⟨Nat.le_trans hb.size h.1, fun i hi hn => (h.2 i (Nat.lt_of_lt_of_le hi hb.size) (fun hq => by rcases hq with hq | hq; exact hn hq.1; omega)).trans (hb.block i hi)⟩
theorem plainEnd_two {w0 w : World} {P : Nat → Prop} {g : Nat} {A : Option Addr} {c : Nat} {syms : List S52} {place : Int} {early : Bool} {asked : Int} {left : List S86} (hB : Below w0.heap.size w0 w) (hI : RS w0 w P g A c syms place early asked left) (o1 o2 : Obj) : PlainEnd w0 w P g A c syms place early asked left ((w.alloc o1).alloc o2) :=
  plainEnd_of (Q := fun k => P k ∧ k < w.heap.size) hB (Int.le_refl _) (by omega) (RS_mono hI (fun k hk _ hlt => ⟨hk, hlt⟩)) hB (kept_refl _ _) (fun k hk => by have := hk.2; omega) (fun k hk => hk.1) (below_two w o1 o2) (KeepBut.of_below (below_two w o1 o2) _ _)
set_option maxHeartbeats 4000000 in
set_option maxRecDepth 100000 in
theorem plain_any (P : Nat → Prop) (g : Nat) (A : Option Addr) (c : Nat) (syms : List S52) (place : Int) (early : Bool) (asked : Int) (left : List S86) (n : S47) (hnm : n.f4.size ≤ maxLen) (hss : ∀ s ∈ syms, s.f0.size ≤ maxLen) (w0 w : World) (hB : Below w0.heap.size w0 w) (hS : Kd.C k52 w0 A syms.length syms) (hI : RS w0 w P g A c syms place early asked left) (hPN : ∀ k, w.heap.size ≤ k → P k) (hm : asked < 1000000) :
    Calls Tryd.prog 36 #[.pointer (some ⟨g, 0, none⟩), .agg #[.int .i64 n.f0, .int .i64 n.f1, .int .i64 n.f2, .int .u32 n.f3, .string n.f4]] w fun e w' => e = .returned (partV (plainF n syms place early)) ∧ PlainEnd w0 w P g A c syms place early asked left w' := by
  have HI := Aside0.mk hI
  obtain ⟨nv, lv, hPg, hgB, hg, h0, h1, hN, hL⟩ := hI
  have hgl : g < w.heap.size := (Array.getElem?_eq_some_iff.1 hg).1
  have c0 : w.cell? ⟨g, 0, none⟩ = some (.slice A syms.length c) := (blk_cell hg 0).trans rfl
  have c2 : w.cell? ⟨g, 2, none⟩ = some (.int .u32 place) := (blk_cell hg 2).trans rfl
  have c3 : w.cell? ⟨g, 3, none⟩ = some (.bool early) := (blk_cell hg 3).trans rfl
  have HB := Aside0.mk hB
  have HS := Aside0.mk hS
  have HSS := Aside0.mk hss
  have HP := Aside0.mk hPN
  clear hg hL hB hS hss hPN hN
  by_cases k1 : n.f0 = 1
  · have HF := Aside0.mk (show plainF n syms place early = (n.f3, 0, 0) from by simp [plainF, k1])
    go_enter Tryd.func36, Tryd.ntmps36
    go_wp2_with (fail)
    refine bodyPost_ret (results_ct rfl _ _ (w.heap.size + 1) 86 #[.int .u32 n.f3, .int .i64 0] (0, 0) _ rfl (blk_two _ _ _) Tryd.underlying86 rfl (by kernel_rfl)) rfl ?_
    exact ⟨by rw [HF.out]; rfl, plainEnd_two HB.out HI.out _ _⟩
  by_cases k3 : n.f0 = 3
  · cases early with
    | true =>
      have HF := Aside0.mk (show plainF n syms place true = (0, 0, 7) from by simp [plainF, k3])
      go_enter Tryd.func36, Tryd.ntmps36
      go_wp2_with (fail)
      refine bodyPost_ret (results_ct rfl _ _ (w.heap.size + 1) 86 #[.int .u32 0, .int .i64 0] (0, 0) _ rfl (blk_two _ _ _) Tryd.underlying86 rfl (by kernel_rfl)) rfl ?_
      exact ⟨by rw [HF.out]; rfl, plainEnd_two HB.out HI.out _ _⟩
    | false =>
      have HF := Aside0.mk (show plainF n syms place false = (place, 1, 0) from by simp [plainF, k3])
      go_enter Tryd.func36, Tryd.ntmps36
      go_wp2_with (fail)
      refine bodyPost_ret (results_ct rfl _ _ (w.heap.size + 1) 86 #[.int .u32 place, .int .i64 1] (0, 0) _ rfl (blk_two _ _ _) Tryd.underlying86 rfl (by kernel_rfl)) rfl ?_
      exact ⟨by rw [HF.out]; rfl, plainEnd_two HB.out HI.out _ _⟩
  have hF1 : plainF n syms place early = match symIdx syms n.f4 with
    | none => (0, 0, 11)
    | some i => if (rd_T52 syms (i : Int)).f2 = 1 ∧ early = true then (0, 0, 7) else ((rd_T52 syms (i : Int)).f1, (rd_T52 syms (i : Int)).f2, 0) := by simp only [plainF, if_neg k1, if_neg k3]
  have HF := Aside0.mk hF1
  clear hF1
  have ho := Aside0.mk (below_two w (.cells #[.int .i64 n.f0, .int .i64 n.f1, .int .i64 n.f2, .int .u32 n.f3, .string n.f4] 47) (.cells #[.int .u32 0, .int .i64 0] 86))
  have hPP : ∀ k, ((P k ∧ k < w.heap.size) ∨ w.heap.size + 2 ≤ k) → P k := fun k hk => hk.elim (fun h => h.1) (fun h => HP.out k (by omega))
  have HPP := Aside0.mk hPP
  clear hPP
  have HFN := Aside0.mk ((find_any (fun k => (P k ∧ k < w.heap.size) ∨ w.heap.size + 2 ≤ k) g A c syms place early asked left n.f4 hnm HSS.out w0 _ (below_weaken HB.out HB.out.size ho.out) HS.out (RS_below (RS_mono HI.out (fun k hk _ hlt => .inl ⟨hk, hlt⟩)) ho.out) (fun k hk => .inr (by simpa using hk)) hm))
  cases hsi : symIdx syms n.f4 with
  | none =>
    rw [hsi] at HF HFN
    have HF := Aside0.mk (HF.out.trans rfl : plainF n syms place early = (0, 0, 11))
    go_enter Tryd.func36, Tryd.ntmps36
    go_wp2_with (fail)
    refine HFN.out.mono ?_
    rintro e w1 ⟨⟨x, rfl, hx⟩, hI1, hb1, hk1⟩
    have hp1 : w1.heap[w.heap.size + 1]? = some (.cells #[.int .u32 0, .int .i64 0] 86 (0, 0)) := (hk1.2 _ (by simp) (by simp)).trans (blk_two _ _ _)
    have q0 := blk_cell hp1 0
    have q1 := blk_cell hp1 1
    have q2 := blk_frozen hp1 0
    have q3 := blk_frozen hp1 1
    have HI1 := Aside0.mk hI1
    have HB1 := Aside0.mk hb1
    have HK1 := Aside0.mk hk1
    have HP1 := Aside0.mk hp1
    clear hx hI1 hb1 hk1 hp1
    go_wp2_with (fail)
    refine bodyPost_ret (results_ct rfl _ _ (w.heap.size + 1) 86 #[.int .u32 0, .int .i64 0] (0, 0) _ rfl (blk_put (blk_put HP1.out 0 _ rfl) 1 _ rfl) Tryd.underlying86 rfl (by kernel_rfl)) rfl ?_
    refine ⟨by rw [HF.out]; rfl, plainEnd_of (Q := fun k => (P k ∧ k < w.heap.size) ∨ w.heap.size + 2 ≤ k) HB.out (by omega) (Int.le_refl _) HI1.out HB1.out (kept_two HK1.out) (fun k hk => by rcases hk with hk | hk <;> omega) HPP.out ?_ ?_⟩
    · exact ((Below.refl w.heap.size w1).setCell (by simp) _).setCell (by simp) _
    · exact ((KeepBut.refl w1 (w.heap.size + 1) none).set_ 0 _).set_ 1 _
  | some i =>
    rw [hsi] at HF HFN
    have hi : i < syms.length := by
      unfold symIdx at hsi
      exact (List.findIdx?_eq_some_iff_getElem.1 hsi).1
    have hdt : decide (0 ≤ idxInt (some i)) = true := by simp [idxInt]
    rw [hdt] at HFN
    have HF := Aside0.mk (HF.out.trans rfl : plainF n syms place early = if (rd_T52 syms (i : Int)).f2 = 1 ∧ early = true then (0, 0, 7) else ((rd_T52 syms (i : Int)).f1, (rd_T52 syms (i : Int)).f2, 0))
    go_enter Tryd.func36, Tryd.ntmps36
    go_wp2_with (fail)
    refine HFN.out.mono ?_
    rintro e w1 ⟨⟨x, rfl, hx⟩, hI1, hb1, hk1⟩
    have hx1 : x = (i : Int) := hx (by first | rfl | trivial)
    subst hx1
    have hp1 : w1.heap[w.heap.size + 1]? = some (.cells #[.int .u32 0, .int .i64 0] 86 (0, 0)) := (hk1.2 _ (by simp) (by simp)).trans (blk_two _ _ _)
    have q0 := blk_cell hp1 0
    have q1 := blk_cell hp1 1
    have q2 := blk_frozen hp1 0
    have q3 := blk_frozen hp1 1
    have HI1 := Aside0.mk hI1
    have HB1 := Aside0.mk hb1
    have HK1 := Aside0.mk hk1
    have HP1 := Aside0.mk hp1
    obtain ⟨nv1, lv1, _, _, hg1, _⟩ := hI1
    have d0 : w1.cell? ⟨g, 0, none⟩ = some (.slice A syms.length c) := (blk_cell hg1 0).trans rfl
    have d3 : w1.cell? ⟨g, 3, none⟩ = some (.bool early) := (blk_cell hg1 3).trans rfl
    obtain ⟨ad, rfl, hc0, hc1, hc2⟩ := at_T52 (Kd.C_below HS.out hb1) i (by omega) (by omega)
    simp only [Int.toNat_natCast] at hc0 hc1 hc2
    have hgl1 : g < w1.heap.size := (Array.getElem?_eq_some_iff.1 hg1).1
    have hpl1 : w.heap.size + 1 < w1.heap.size := (Array.getElem?_eq_some_iff.1 hp1).1
    clear hx hb1 hk1 hp1 hg1
    by_cases k7 : (rd_T52 syms (i : Int)).f2 = 1
    · cases early with
      | true =>
        have HF7 : Aside0 (plainF n syms place true = (0, 0, 7)) := Aside0.mk (HF.out.trans (if_pos ⟨k7, rfl⟩))
        go_wp2_with (fail)
        refine bodyPost_ret (results_ct rfl _ _ (w.heap.size + 1) 86 #[.int .u32 0, .int .i64 0] (0, 0) _ rfl (blk_alloc (blk_put (blk_put HP1.out 0 _ rfl) 1 _ rfl) _) Tryd.underlying86 rfl (by kernel_rfl)) rfl ?_
        refine ⟨by rw [HF7.out]; rfl, plainEnd_of (Q := fun k => (P k ∧ k < w.heap.size) ∨ w.heap.size + 2 ≤ k) HB.out (by omega) (Int.le_refl _) HI1.out HB1.out (kept_two HK1.out) (fun k hk => by rcases hk with hk | hk <;> omega) HPP.out ?_ ?_⟩
        · exact (((Below.refl w.heap.size w1).setCell (by simp) _).setCell (by simp) _).alloc (by simp [size_set]; omega) _
        · exact keep_then (((KeepBut.refl w1 (w.heap.size + 1) none).set_ 0 _).set_ 1 _) ((Below.refl _ _).alloc (Nat.le_refl _) _)
      | false =>
        have HF := Aside0.mk (HF.out.trans (if_neg (fun h => by have := h.2; cases this)))
        go_wp2_with (fail)
        refine bodyPost_ret (results_ct rfl _ _ (w.heap.size + 1) 86 #[.int .u32 (rd_T52 syms (i : Int)).f1, .int .i64 1] (0, 0) _ rfl (blk_alloc (blk_put (blk_put HP1.out 0 _ rfl) 1 _ rfl) _) Tryd.underlying86 rfl (by kernel_rfl)) rfl ?_
        refine ⟨by rw [HF.out, k7]; rfl, plainEnd_of (Q := fun k => (P k ∧ k < w.heap.size) ∨ w.heap.size + 2 ≤ k) HB.out (by omega) (Int.le_refl _) HI1.out HB1.out (kept_two HK1.out) (fun k hk => by rcases hk with hk | hk <;> omega) HPP.out ?_ ?_⟩
        · exact (((Below.refl w.heap.size w1).setCell (by simp) _).setCell (by simp) _).alloc (by simp [size_set]; omega) _
        · exact keep_then (((KeepBut.refl w1 (w.heap.size + 1) none).set_ 0 _).set_ 1 _) ((Below.refl _ _).alloc (Nat.le_refl _) _)
    · have HF := Aside0.mk (HF.out.trans (if_neg (fun h => k7 h.1)))
      go_wp2_with (fail)
      refine bodyPost_ret (results_ct rfl _ _ (w.heap.size + 1) 86 #[.int .u32 (rd_T52 syms (i : Int)).f1, .int .i64 (rd_T52 syms (i : Int)).f2] (0, 0) _ rfl (blk_alloc (blk_put (blk_put HP1.out 0 _ rfl) 1 _ rfl) _) Tryd.underlying86 rfl (by kernel_rfl)) rfl ?_
      refine ⟨by rw [HF.out]; rfl, plainEnd_of (Q := fun k => (P k ∧ k < w.heap.size) ∨ w.heap.size + 2 ≤ k) HB.out (by omega) (Int.le_refl _) HI1.out HB1.out (kept_two HK1.out) (fun k hk => by rcases hk with hk | hk <;> omega) HPP.out ?_ ?_⟩
      · exact (((Below.refl w.heap.size w1).setCell (by simp) _).setCell (by simp) _).alloc (by simp [size_set]; omega) _
      · exact keep_then (((KeepBut.refl w1 (w.heap.size + 1) none).set_ 0 _).set_ 1 _) ((Below.refl _ _).alloc (Nat.le_refl _) _)
end Go.Proofs.YtgholjhcbhcicaaDoor.PAll
