/- The map of names is made. -/
import Derived.Test.YtgholjhcbhcicaaDoorMany
import Derived.WalkSpells
namespace Go.Proofs.YtgholjhcbhcicaaDoor.PAll
open Go.RowKit Go.Proofs.YtgholjhcbhcicaaDoorW.PrintWords Go.Proofs.YtgholjhcbhcicaaDoorW.PrintLast Go.Proofs.YtgholjhcbhcicaaDoorW.PrintMore Go.Proofs.YtgholjhcbhcicaaDoor.Errs Go.Maps
set_option linter.unusedVariables false
set_option linter.unusedSimpArgs false
/-- A look into a map. -/
theorem look_any {w : World} {mb n : Nat} {D : DataW Unit} (h : w.ownsMap Tryd.prog 9 (plainElem Tryd.prog 3) mb n D) (nm : ByteArray) (hs : nm.size ≤ maxLen) :
    ∃ x : Int, ∀ W : World, W.heap = w.heap → (Instr.lookup 74 (.map (some mb)) (.string nm) true).run Tryd.prog W = .ok (.tuple #[.int .i64 x, .bool (Maps.has D (kl nm))]) W := by
  have hlook : ∀ W : World, W.heap = w.heap → ∃ v ps, (Instr.lookup 74 (.map (some mb)) (.string nm) true).run Tryd.prog W = .ok (.tuple #[v, .bool (Maps.has D (kl nm))]) W ∧ plainElem (H := Unit) Tryd.prog 3 v = some (D.atKey (kl nm) (.lit (.int .i64 0)), ps) := by
    intro W hW
    have hWm : W.ownsMap Tryd.prog 9 (plainElem Tryd.prog 3) mb n D := by
      unfold World.ownsMap at h ⊢
      rwa [hW]
    exact hWm.look_ok (string_keyed Tryd.underlying9) Tryd.underlying74 (zero_i64 W) (plainElem_int Tryd.underlying3 (by decide)) (WideMaps.keyOf_string_mk Tryd.underlying9 hs)
  obtain ⟨v, ps, hrun, hv⟩ := hlook w rfl
  obtain ⟨x, rfl, hx, hwf⟩ := plainElem_int_inv Tryd.underlying3 hv
  simp only [Prod.mk.injEq] at hx
  refine ⟨x, fun W hW => ?_⟩
  obtain ⟨v2, ps2, hrun2, hv2⟩ := hlook W hW
  obtain ⟨x2, rfl, hx2, _⟩ := plainElem_int_inv Tryd.underlying3 hv2
  simp only [Prod.mk.injEq] at hx2
  have : x2 = x := by
    have := hx2.1.symm.trans hx.1
    simpa using this
  rw [hrun2, this]
/-- As far as the map is made. -/
def MkAt (w0 w wr : World) (g : Nat) (A : Option Addr) (c : Nat) (syms : List S52) (place : Int) (early : Bool) (lv : Value) (nm : ByteArray) (k : Nat) : Prop :=
  Below w0.heap.size w0 wr ∧ KeepBut w wr g none ∧ wr.heap[g]? = some (.cells #[.slice A syms.length c, .map (some (w.heap.size + 1)), .int .u32 place, .bool early, .int .i64 9, lv] 77 (0, 0)) ∧
    wr.ownsMap Tryd.prog 9 (plainElem Tryd.prog 3) (w.heap.size + 1) k (namesFrom syms k) ∧ wr.heap[w.heap.size]? = some (.cells #[.string nm] 9 (0, 0)) ∧ w.heap.size + 2 ≤ wr.heap.size
theorem mkAt_start {w0 w : World} {g : Nat} {A : Option Addr} {c : Nat} {syms : List S52} {place : Int} {early : Bool} {lv nv : Value} {nm : ByteArray} (hB : Below w0.heap.size w0 w) (hgB : w0.heap.size ≤ g) (asked : Int) (hg : w.heap[g]? = some (.cells #[.slice A syms.length c, nv, .int .u32 place, .bool early, .int .i64 asked, lv] 77 (0, 0))) :
    MkAt w0 w ((((w.setCell ⟨g, 4, none⟩ (.int .i64 9)).setCell ⟨g, 1, none⟩ (.map (some (w.heap.size + 1)))).alloc (.cells #[.string nm] 9)).alloc (.map #[] 0)) g A c syms place early lv nm 0 := by
  have hlg : g < w.heap.size := (Array.getElem?_eq_some_iff.1 hg).1
  have hs2 : ((w.setCell ⟨g, 4, none⟩ (.int .i64 9)).setCell ⟨g, 1, none⟩ (.map (some (w.heap.size + 1)))).heap.size = w.heap.size := by rw [size_set, size_set]
  have hs3 : (((w.setCell ⟨g, 4, none⟩ (.int .i64 9)).setCell ⟨g, 1, none⟩ (.map (some (w.heap.size + 1)))).alloc (.cells #[.string nm] 9)).heap.size = w.heap.size + 1 := by simp
  refine ⟨?_, ?_, ?_, ?_, ?_, ?_⟩
  · have h1 : Below w0.heap.size w0 ((w.setCell ⟨g, 4, none⟩ (.int .i64 9)).setCell ⟨g, 1, none⟩ (.map (some (w.heap.size + 1)))) := (hB.setCell hgB _).setCell hgB _
    exact (h1.alloc (by rw [hs2]; exact hB.size) _).alloc (by rw [hs3]; have := hB.size; omega) _
  · exact keep_then (keep_then ((keep_set w g 4 _).set_ 1 _) ((Below.refl _ _).alloc (Nat.le_refl _) _)) ((Below.refl _ _).alloc (Nat.le_refl _) _)
  · rw [Below.heap_alloc _ _ _ (by rw [hs3]; omega), Below.heap_alloc _ _ _ (by rw [hs2]; omega), heap_setCell_same _ g 1 _ _ _ (heap_setCell_same w g 4 _ _ _ hg)]
    rfl
  · have := World.ownsMap_made (((w.setCell ⟨g, 4, none⟩ (.int .i64 9)).setCell ⟨g, 1, none⟩ (.map (some (w.heap.size + 1)))).alloc (.cells #[.string nm] 9)) Tryd.prog 9 (plainElem (H := Unit) Tryd.prog 3)
    rwa [hs3] at this
  · rw [Below.heap_alloc _ _ _ (by rw [hs3]; omega)]
    have := heap_alloc_new ((w.setCell ⟨g, 4, none⟩ (.int .i64 9)).setCell ⟨g, 1, none⟩ (.map (some (w.heap.size + 1)))) (.cells #[.string nm] 9)
    rwa [hs2] at this
  · simp
theorem lit_i64 {x : Int} (h0 : -9223372036854775808 ≤ x) (h1 : x ≤ 9223372036854775807) : (Lit.int .i64 x).wf = true := by
  exact WalkArith.wf_i64 ⟨h0, h1⟩
theorem mkAt_put {w0 w wr wq w1 : World} {g : Nat} {A : Option Addr} {c : Nat} {syms : List S52} {place : Int} {early : Bool} {lv : Value} {nm : ByteArray} {k : Nat} (h : MkAt w0 w wr g A c syms place early lv nm k) (hk : Maps.has (namesFrom syms k) (kl (rd_T52 syms (k : Int)).f0) = false) (o : Obj) (j : Nat) (hq : (wr.alloc o).drewN j = wq)
    (hown : w1.ownsMap Tryd.prog 9 (plainElem Tryd.prog 3) (w.heap.size + 1) (k + 1) ((namesFrom syms k).put (kl (rd_T52 syms (k : Int)).f0) (.lit (.int .i64 (k : Int))))) (hlw : g < w.heap.size) (hw0 : w0.heap.size ≤ w.heap.size) (hgr1 : ({ wq with drawn := wq.drawn + 1 } : World).grownBy w1 (some (w.heap.size + 1))) :
    MkAt w0 w w1 g A c syms place early lv nm (k + 1) := by
  obtain ⟨hb, hkp, hgr, hownk, hnr, hsz⟩ := h
  have hb1 := hb.alloc hb.size o
  have hk1 := keep_then hkp ((Below.refl wr.heap.size wr).alloc (Nat.le_refl _) o)
  have hlg : g < wr.heap.size := (Array.getElem?_eq_some_iff.1 hgr).1
  have hs1 := ((Below.refl wr.heap.size wr).alloc (Nat.le_refl _) o).size
  have hheap : wq.heap = (wr.alloc o).heap := by rw [← hq]; rfl
  have hsq : wq.heap.size = (wr.alloc o).heap.size := by rw [hheap]
  have hs2 : wq.heap.size ≤ w1.heap.size := hgr1.size
  have hblk : ∀ i, i < wr.heap.size → i ≠ w.heap.size + 1 → w1.heap[i]? = wr.heap[i]? := by
    intro i hi hne
    rw [hgr1.block i (by show i < wq.heap.size; omega) (by simpa using hne)]
    show wq.heap[i]? = _
    rw [hheap]
    exact Below.heap_alloc _ _ _ hi
  have hsh := hkp.1
  have hbs := hb.size
  refine ⟨⟨?_, ?_, ?_, by omega, fun i hi => ?_⟩, ⟨by omega, fun i hi hne hr => ?_⟩, ?_, ?_, ?_, by omega⟩
  · exact hgr1.os.trans ((congrArg World.os hq).symm.trans hb.os)
  · exact hgr1.tape.trans ((congrArg World.tape hq).symm.trans hb.tape)
  · exact hgr1.output.trans ((congrArg World.output hq).symm.trans hb.output)
  · exact (hblk i (by omega) (by omega)).trans (hb.block i hi)
  · exact (hblk i (by omega) (by omega)).trans (hkp.2 i hi hne hr)
  · exact (hblk g hlg (by omega)).trans hgr
  · simp only [namesFrom]
    rw [if_neg (by rw [hk]; decide)]
    exact hown
  · exact (hblk _ (by omega) (by omega)).trans hnr
theorem mkAt_known {w0 w wr : World} {g : Nat} {A : Option Addr} {c : Nat} {syms : List S52} {place : Int} {early : Bool} {lv : Value} {nm : ByteArray} {k : Nat} (h : MkAt w0 w wr g A c syms place early lv nm k) (hk : Maps.has (namesFrom syms k) (kl (rd_T52 syms (k : Int)).f0) = true) (o : Obj) (j : Nat) :
    MkAt w0 w ((wr.alloc o).drewN j) g A c syms place early lv nm (k + 1) := by
  obtain ⟨hb, hkp, hgr, hown, hnr, hsz⟩ := h
  have hb1 := hb.alloc hb.size o
  have hk1 := keep_then hkp ((Below.refl wr.heap.size wr).alloc (Nat.le_refl _) o)
  have hlg : g < wr.heap.size := (Array.getElem?_eq_some_iff.1 hgr).1
  refine ⟨⟨hb1.os, hb1.tape, hb1.output, hb1.size, hb1.block⟩, hk1, ?_, ?_, ?_, ?_⟩
  · exact (Below.heap_alloc _ _ _ hlg).trans hgr
  · have h2 := (hown.alloc o).mono (Nat.le_succ k)
    simp only [namesFrom, if_pos hk]
    exact h2
  · exact (Below.heap_alloc _ _ _ (by omega)).trans hnr
  · have := ((Below.refl wr.heap.size wr).alloc (Nat.le_refl _) o).size
    show w.heap.size + 2 ≤ (wr.alloc o).heap.size
    omega
set_option maxHeartbeats 4000000 in
set_option maxRecDepth 100000 in
theorem find_make (P : Nat → Prop) (g : Nat) (A : Option Addr) (c : Nat) (syms : List S52) (place : Int) (early : Bool) (left : List S86) (nm : ByteArray) (hnm : nm.size ≤ maxLen) (hss : ∀ s ∈ syms, s.f0.size ≤ maxLen) (w0 w : World) (hB : Below w0.heap.size w0 w) (hS : Kd.C k52 w0 A syms.length syms) (hI : RS w0 w P g A c syms place early 8 left) (hPN : ∀ k, w.heap.size ≤ k → P k) :
    Calls Tryd.prog 52 #[.pointer (some ⟨g, 0, none⟩), .string nm] w fun e w' => (∃ x : Int, e = .returned (.tuple #[.int .i64 x, .bool (decide (0 ≤ idxInt (symIdx syms nm)))]) ∧ (decide (0 ≤ idxInt (symIdx syms nm)) = true → x = idxInt (symIdx syms nm))) ∧ RS w0 w' P g A c syms place early 9 left ∧ Below w0.heap.size w0 w' ∧ Kept w w' P := by
  obtain ⟨nv, lv, hPg, hgB, hg, h0, h1, hN, hL⟩ := hI
  have h8 : nv = .map none := by
    rcases hN with ⟨_, h8⟩ | ⟨hc, _⟩
    · exact h8
    · omega
  subst h8
  have hlg : g < w.heap.size := (Array.getElem?_eq_some_iff.1 hg).1
  have hlen : syms.length ≤ 9223372036854775807 := hS.2.1
  have c4 : w.cell? ⟨g, 4, none⟩ = some (.int .i64 8) := (blk_cell hg 4).trans rfl
  have f4 : w.frozen? ⟨g, 4, none⟩ = false := blk_frozen hg 4
  have c1 : w.cell? ⟨g, 1, none⟩ = some (.map none) := (blk_cell hg 1).trans rfl
  have f1 : w.frozen? ⟨g, 1, none⟩ = false := blk_frozen hg 1
  have c0 : w.cell? ⟨g, 0, none⟩ = some (.slice A syms.length c) := (blk_cell hg 0).trans rfl
  have hq := eql_names
  have hmm := @run_makeMap Tryd.prog
  have HG := Aside0.mk hg
  have HL := Aside0.mk hL
  have HB := Aside0.mk hB
  have HS := Aside0.mk hS
  have HSS := Aside0.mk hss
  have HP := Aside0.mk hPN
  clear hg hL hB hS hss hPN
  go_enter Tryd.func52, Tryd.ntmps52
  go_wp2_with (fail)
  go_loopw [7, 8, 9, 10, 48] (fun v7 v8 v9 v10 v48 wr => ∃ k : Nat, k ≤ syms.length ∧ v48 = .int .i64 (k : Int) ∧ Aside0 (MkAt w0 w wr g A c syms place early lv nm k)) (fun _ _ _ _ v48 _ => syms.length - (intOf v48).toNat)
  case atStart => exact ⟨0, by omega, rfl, ⟨mkAt_start HB.out hgB _ HG.out⟩⟩
  case round =>
    obtain ⟨k, hk, rfl, HM⟩ := hrel
    obtain ⟨hb, hkp, hgr, hown, hnr, hsz⟩ := HM.out
    have d1 : wr.cell? ⟨g, 1, none⟩ = some (.map (some (w.heap.size + 1))) := (blk_cell hgr 1).trans rfl
    have hgl : g < wr.heap.size := (Array.getElem?_eq_some_iff.1 hgr).1
    have HO := Aside0.mk hown
    by_cases hlt : k < syms.length
    · obtain ⟨ad, rfl, hc0, hc1, hc2⟩ := at_T52 (Kd.C_below HS.out hb) k (by omega) (by omega)
      simp only [Int.toNat_natCast] at hc0 hc1 hc2
      clear hb hkp hgr hown hnr
      have HSZ := Aside0.mk (show (rd_T52 syms (k : Int)).f0.size ≤ maxLen from HSS.out _ (by
        have hx : rd_T52 syms (k : Int) = syms[k] := by simp [rd_T52, List.getD_eq_getElem?_getD, List.getElem?_eq_getElem hlt]
        rw [hx]; exact List.getElem_mem hlt))
      have HO1 := Aside0.mk (HO.out.alloc (.cells #[.string (rd_T52 syms (k : Int)).f0, .int .u32 (rd_T52 syms (k : Int)).f1, .int .i64 (rd_T52 syms (k : Int)).f2] 52))
      obtain ⟨x, hrun⟩ := look_any HO1.out (rd_T52 syms (k : Int)).f0 HSZ.out
      have hlk := fun j => hrun ((wr.alloc (.cells #[.string (rd_T52 syms (k : Int)).f0, .int .u32 (rd_T52 syms (k : Int)).f1, .int .i64 (rd_T52 syms (k : Int)).f2] 52)).drewN j) (by simp [World.drewN])
      clear hrun
      cases hh : Maps.has (namesFrom syms k) (kl (rd_T52 syms (k : Int)).f0) with
      | true =>
        have HH := Aside0.mk hh
        rw [hh] at hlk
        clear hh
        go_wp2_with (fail)
        go_quiet (fail)
        go_wp2_with (fail)
        go_roundw
        case rel => exact ⟨k + 1, by omega, by go_num, ⟨mkAt_known HM.out HH.out _ _⟩⟩
        case measure => simp [intOf]; omega
      | false =>
        have HH := Aside0.mk hh
        rw [hh] at hlk
        clear hh
        go_wp2_with (fail)
        go_quiet (fail)
        go_wp2_with (fail)
        have e1 : ((wr.alloc (.cells #[.string (rd_T52 syms (k : Int)).f0, .int .u32 (rd_T52 syms (k : Int)).f1, .int .i64 (rd_T52 syms (k : Int)).f2] 52)).drewN nq).cell? ⟨g, 1, none⟩ = some (.map (some (w.heap.size + 1))) := pw_cell_below ((Below.refl _ _).alloc (Nat.le_refl _) _) d1
        have e2 : ((wr.alloc (.cells #[.string (rd_T52 syms (k : Int)).f0, .int .u32 (rd_T52 syms (k : Int)).f1, .int .i64 (rd_T52 syms (k : Int)).f2] 52)).drewN nq).cell? ⟨wr.heap.size, 0, none⟩ = some (.string (rd_T52 syms (k : Int)).f0) := (blk_cell (heap_alloc_new wr _) 0).trans rfl
        have e3 : ((wr.alloc (.cells #[.string (rd_T52 syms (k : Int)).f0, .int .u32 (rd_T52 syms (k : Int)).f1, .int .i64 (rd_T52 syms (k : Int)).f2] 52)).drewN nq).ownsMap Tryd.prog 9 (plainElem Tryd.prog 3) (w.heap.size + 1) k (namesFrom syms k) := HO1.out
        generalize hwq : (wr.alloc (.cells #[.string (rd_T52 syms (k : Int)).f0, .int .u32 (rd_T52 syms (k : Int)).f1, .int .i64 (rd_T52 syms (k : Int)).f2] 52)).drewN nq = wq at *
        have HQ := Aside0.mk hwq
        have H3 := Aside0.mk e3
        clear hwq e3
        go_still_tail 7, (by kernel_rfl)
        at_mapUpdate
        refine wpList_mapUpdate_own _ rfl _ _ _ 74 rfl 9 3 (string_keyed Tryd.underlying9) Tryd.underlying74 _ (w.heap.size + 1) k _ rfl H3.out (by unfold maxLen; omega) _ _ _ rfl rfl (WideMaps.keyOf_string_mk Tryd.underlying9 HSZ.out) _ [] (plainElem_int Tryd.underlying3 (lit_i64 (by omega) (by omega))) ?_
        intro w1 hown1 hgrow1
        have HW := Aside0.mk hown1
        have HGR := Aside0.mk hgrow1
        clear hown1 hgrow1
        go_wp2_with (fail)
        go_roundw
        case rel => exact ⟨k + 1, by omega, by go_num, ⟨mkAt_put HM.out HH.out _ _ HQ.out HW.out hlg HB.out.size HGR.out⟩⟩
        case measure => simp [intOf]; omega
    · have hke : k = syms.length := by omega
      subst hke
      have d2 : wr.cell? ⟨w.heap.size, 0, none⟩ = some (.string nm) := (blk_cell hnr 0).trans rfl
      obtain ⟨x, hx, hrun⟩ := look_names hown nm hnm
      have hlk := fun j => hrun (wr.drewN j) rfl
      have HX := Aside0.mk hx
      clear hb hkp hgr hown hnr hx hrun
      go_wp2_with (fail)
      go_quiet (fail)
      go_wp2_with (fail)
      go_ret2
      obtain ⟨hb, hkp, hgr, hown, hnr, hsz⟩ := HM.out
      have hbs := HB.out.size
      refine ⟨⟨x, rfl, HX.out⟩, ⟨.map (some (w.heap.size + 1)), lv, hPg, hgB, hgr, by omega, by omega, .inr ⟨by omega, w.heap.size + 1, syms.length, rfl, HP.out _ (by omega), by omega, by omega, hown⟩, ?_⟩, ⟨hb.os, hb.tape, hb.output, hb.size, hb.block⟩, ?_⟩
      · exact Kd.R_step HL.out (fun k hk1 hlt => hkp.2 k hlt hk1.2 (by simp))
      · exact ⟨hkp.1, fun i hi hn => hkp.2 i hi (fun e => hn (e ▸ hPg)) (by simp)⟩
/-- The search for a name, however often. -/
theorem find_any (P : Nat → Prop) (g : Nat) (A : Option Addr) (c : Nat) (syms : List S52) (place : Int) (early : Bool) (asked : Int) (left : List S86) (nm : ByteArray) (hnm : nm.size ≤ maxLen) (hss : ∀ s ∈ syms, s.f0.size ≤ maxLen) (w0 w : World) (hB : Below w0.heap.size w0 w) (hS : Kd.C k52 w0 A syms.length syms) (hI : RS w0 w P g A c syms place early asked left) (hPN : ∀ k, w.heap.size ≤ k → P k) (hm : asked < 1000000) :
    Calls Tryd.prog 52 #[.pointer (some ⟨g, 0, none⟩), .string nm] w fun e w' => (∃ x : Int, e = .returned (.tuple #[.int .i64 x, .bool (decide (0 ≤ idxInt (symIdx syms nm)))]) ∧ (decide (0 ≤ idxInt (symIdx syms nm)) = true → x = idxInt (symIdx syms nm))) ∧ RS w0 w' P g A c syms place early (asked + 1) left ∧ Below w0.heap.size w0 w' ∧ Kept w w' P := by
  rcases Int.lt_trichotomy asked 8 with h | h | h
  · exact (find_few P g A c syms place early asked left nm w0 w hB hS hI h).mono fun e w' ⟨he, hr⟩ => ⟨⟨_, he, fun _ => rfl⟩, hr⟩
  · subst h
    exact find_make P g A c syms place early left nm hnm hss w0 w hB hS hI hPN
  · exact find_map P g A c syms place early asked left nm hnm w0 w hB hI h hm
end Go.Proofs.YtgholjhcbhcicaaDoor.PAll
