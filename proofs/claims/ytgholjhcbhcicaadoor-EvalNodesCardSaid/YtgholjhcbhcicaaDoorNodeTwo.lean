/- A node with two parts. -/
import Derived.Test.YtgholjhcbhcicaaDoorNode
import Derived.Deep.RegionLaw
import Derived.Deep.RegionWith
import Derived.Deep.CutRange
import Derived.Deep.Cut
import Derived.StillTailTactics
namespace Go.Proofs.YtgholjhcbhcicaaDoor.PAll
open Go.RowKit Go.Proofs.YtgholjhcbhcicaaDoorW.PrintWords Go.Proofs.YtgholjhcbhcicaaDoorW.PrintLast Go.Proofs.YtgholjhcbhcicaaDoorW.PrintMore Go.Proofs.YtgholjhcbhcicaaDoor.Errs Go.Maps
set_option linter.unusedVariables false
set_option linter.unusedSimpArgs false
set_option maxHeartbeats 8000000 in
set_option maxRecDepth 100000 in
theorem node_two (P : Nat → Prop) (g : Nat) (A : Option Addr) (c : Nat) (syms : List S52) (place : Int) (early : Bool) (asked : Int) (left : List S86) (n : S47) (r : Int × Int × Int) (hnm : n.f4.size ≤ maxLen) (hss : ∀ s ∈ syms, s.f0.size ≤ maxLen) (w0 w : World) (hB : Below w0.heap.size w0 w) (hS : Kd.C k52 w0 A syms.length syms) (hI : RS w0 w P g A c syms place early asked left) (hPN : ∀ k, w.heap.size ≤ k → P k) (hm : asked < 1000000) (k : Nat) (hp : partsOf n.f0 = 2) (hge : 2 ≤ left.length) (hr : eval_joined.f k n.f0 (rd_T86 left ((left.length : Int) - 2)).f0 (rd_T86 left ((left.length : Int) - 2)).f1 (rd_T86 left ((left.length : Int) - 1)).f0 (rd_T86 left ((left.length : Int) - 1)).f1 = some r) (hl : left.length < 1000000) :
    Calls Tryd.prog 23 #[.pointer (some ⟨g, 0, none⟩), .agg #[.int .i64 n.f0, .int .i64 n.f1, .int .i64 n.f2, .int .u32 n.f3, .string n.f4]] w fun e w' => e = .returned (codeV r.2.2) ∧ NodeEnd w0 w P g A c syms place early asked (if r.2.2 = 0 then left.take (left.length - 2) ++ [⟨r.1, r.2.1⟩] else left) w' := by
  have HI := Aside0.mk hI
  obtain ⟨nv, lv, hPg, hgB, hg, h0, h1, hN, hL⟩ := hI
  have hgl : g < w.heap.size := (Array.getElem?_eq_some_iff.1 hg).1
  obtain ⟨L, cc, rfl⟩ := Kd.R_slice hL
  obtain ⟨_, hlc, hC⟩ := Kd.R_reads' hL
  obtain ⟨ad, rfl, x0, x1⟩ := at_T86 hC ((left.length : Int) - 2) (by omega) (by omega)
  obtain ⟨ad', had, z0, z1⟩ := at_T86 hC ((left.length : Int) - 1) (by omega) (by omega)
  obtain rfl : ad = ad' := by simpa using had
  have hnat : ((left.length : Int) - 2).toNat = left.length - 2 := by omega
  have hnat1 : ((left.length : Int) - 1).toNat = left.length - 1 := by omega
  rw [hnat] at x0 x1
  rw [hnat1, show (left.length - 1) * 2 = (left.length - 2) * 2 + 2 from by omega] at z0 z1
  clear hnat1 had
  clear hC
  have c5 : w.cell? ⟨g, 5, none⟩ = some (.slice (some ad) left.length cc) := (blk_cell hg 5).trans rfl
  have HB := Aside0.mk hB
  have HS := Aside0.mk hS
  have HSS := Aside0.mk hss
  have HP := Aside0.mk hPN
  have HR := Aside0.mk hr
  have HG := Aside0.mk hg
  clear hg hL hB hS hN hss hPN hr
  go_enter Tryd.func23, Tryd.ntmps23
  go_wp2_with (fail)
  refine (parts_any n.f0 _).mono ?_
  rintro e w1 ⟨rfl, m, rfl⟩
  rw [hp]
  have hbx : ((w.alloc (.cells #[.int .i64 n.f0, .int .i64 n.f1, .int .i64 n.f2, .int .u32 n.f3, .string n.f4] 47)).drewN m).heap[w.heap.size]? = some (.cells #[.int .i64 n.f0, .int .i64 n.f1, .int .i64 n.f2, .int .u32 n.f3, .string n.f4] 47 (0, 0)) := heap_alloc_new w _
  have hbw : Below w.heap.size w ((w.alloc (.cells #[.int .i64 n.f0, .int .i64 n.f1, .int .i64 n.f2, .int .u32 n.f3, .string n.f4] 47)).drewN m) := pw_below_drewN ((Below.refl _ _).alloc (Nat.le_refl _) _) m
  have hsz : ((w.alloc (.cells #[.int .i64 n.f0, .int .i64 n.f1, .int .i64 n.f2, .int .u32 n.f3, .string n.f4] 47)).drewN m).heap.size = w.heap.size + 1 := by simp
  generalize ((w.alloc (.cells #[.int .i64 n.f0, .int .i64 n.f1, .int .i64 n.f2, .int .u32 n.f3, .string n.f4] 47)).drewN m) = wq at *
  have d5 : wq.cell? ⟨g, 5, none⟩ = some (.slice (some ad) left.length cc) := pw_cell_below hbw c5
  have b0 : wq.cell? ⟨w.heap.size, 0, none⟩ = some (.int .i64 n.f0) := (blk_cell hbx 0).trans rfl
  have b1 : wq.cell? ⟨w.heap.size, 1, none⟩ = some (.int .i64 n.f1) := (blk_cell hbx 1).trans rfl
  have b2 : wq.cell? ⟨w.heap.size, 2, none⟩ = some (.int .i64 n.f2) := (blk_cell hbx 2).trans rfl
  have b3 : wq.cell? ⟨w.heap.size, 3, none⟩ = some (.int .u32 n.f3) := (blk_cell hbx 3).trans rfl
  have b4 : wq.cell? ⟨w.heap.size, 4, none⟩ = some (.string n.f4) := (blk_cell hbx 4).trans rfl
  have hgq : g < wq.heap.size := by omega
  have hbl : w.heap.size < wq.heap.size := by omega
  have HBX := Aside0.mk hbx
  have HBW := Aside0.mk hbw
  have HSZ := Aside0.mk hsz
  clear hbx hbw hsz c5
  go_wp2_with (fail)
  go_quiet (fail)
  rw [show left.length - (left.length - 2) = 2 from by omega]
  have hb3 : Below wq.heap.size wq ((wq.drewN nq).alloc (.cells #[.int .u32 0, .int .i64 0] 86)) := (pw_below_drewN (Below.refl _ _) nq).alloc (Nat.le_refl _) _
  have hwW : Below w.heap.size w ((wq.drewN nq).alloc (.cells #[.int .u32 0, .int .i64 0] 86)) := HBW.out.trans (hb3.mono HBW.out.size)
  have e0 := pw_cell_below hb3 b0
  have e1 := pw_cell_below hb3 b1
  have e2 := pw_cell_below hb3 b2
  have e3 := pw_cell_below hb3 b3
  have e4 := pw_cell_below hb3 b4
  have e5 := pw_cell_below hwW x0
  have e6 := pw_cell_below hwW x1
  have e7 := pw_cell_below hwW z0
  have e8 := pw_cell_below hwW z1
  have y7 : ((wq.drewN nq).alloc (.cells #[.int .u32 0, .int .i64 0] 86)).cell? ⟨(ad.add ((left.length - 2) * 2)).block, (ad.add ((left.length - 2) * 2)).off + 2, none⟩ = some (.int .u32 (rd_T86 left ((left.length : Int) - 1)).f0) := by
    rw [← e7]
    congr 1
    simp only [Addr.add]
    by_cases h0 : (left.length - 2) * 2 = 0
    · simp [h0]
    · rw [if_neg h0, if_neg (by omega)]
      simp
      try omega
  have y8 : ((wq.drewN nq).alloc (.cells #[.int .u32 0, .int .i64 0] 86)).cell? ⟨(ad.add ((left.length - 2) * 2)).block, (ad.add ((left.length - 2) * 2)).off + 2 + 1, none⟩ = some (.int .i64 (rd_T86 left ((left.length : Int) - 1)).f1) := by
    rw [← e8]
    congr 1
    simp only [Addr.add]
    by_cases h0 : (left.length - 2) * 2 = 0
    · simp [h0]
    · rw [if_neg h0, if_neg (by omega)]
      simp
      try omega
  have y9 : ((wq.drewN nq).alloc (.cells #[.int .u32 0, .int .i64 0] 86)).cell? ⟨(ad.add ((left.length - 2) * 2)).block, (ad.add ((left.length - 2) * 2)).off + 3, none⟩ = some (.int .i64 (rd_T86 left ((left.length : Int) - 1)).f1) := y8
  clear e7 e8
  have HB3 := Aside0.mk hb3
  have HWW := Aside0.mk hwW
  clear hb3 hwW b0 b1 b2 b3 b4
  obtain ⟨rv, rc, ro⟩ := r
  go_wp2_with (fail)
  have hWs : ((wq.drewN nq).alloc (.cells #[.int .u32 0, .int .i64 0] 86)).heap.size = wq.heap.size + 1 := by simp
  have hpW : ((wq.drewN nq).alloc (.cells #[.int .u32 0, .int .i64 0] 86)).heap[wq.heap.size]? = some (.cells #[.int .u32 0, .int .i64 0] 86 (0, 0)) := heap_alloc_new (wq.drewN nq) _
  generalize ((wq.drewN nq).alloc (.cells #[.int .u32 0, .int .i64 0] 86)) = W at *
  have HWS := Aside0.mk hWs
  have HPW := Aside0.mk hpW
  clear hWs hpW
  have HGW := Aside0.mk ((HWW.out.block g hgl).trans HG.out)
  go_upto_region 8 with fail
  rw [inBlock_then]
  go_cut [8] from 37 to 48 (fun v8 wx => v8 = .int .i64 ro ∧ Aside0 (Below w.heap.size w wx ∧ wx.heap[wq.heap.size]? = some (.cells #[.int .u32 rv, .int .i64 rc] 86 (0, 0))))
  case first =>
    go_region_with (go_at_call 38; refine (eval_joined.calls k n.f0 _ _ _ _ rv rc ro _ HR.out).mono ?_; rintro e w1 ⟨rfl, hb1⟩; have hp1 : w1.heap[wq.heap.size]? = some (.cells #[.int .u32 0, .int .i64 0] 86 (0, 0)) := (hb1.block _ (by have := HWS.out; simp; omega)).trans HPW.out; have q0 : w1.cell? ⟨wq.heap.size, 0, none⟩ = some (.int .u32 0) := (blk_cell hp1 0).trans rfl; have q1 : w1.cell? ⟨wq.heap.size, 1, none⟩ = some (.int .i64 0) := (blk_cell hp1 1).trans rfl; have q2 := blk_frozen hp1 0; have q3 := blk_frozen hp1 1; have hpl1 : wq.heap.size < w1.heap.size := (Array.getElem?_eq_some_iff.1 hp1).1; have HB1 := Aside0.mk hb1; have HP1 := Aside0.mk hp1; clear hb1 hp1; skip)
    all_goals
      go_wp2_with fail
      go_meet
      exact ⟨rfl, ⟨((HWW.out.trans ((show Below W.heap.size W w1 from ⟨HB1.out.os, HB1.out.tape, HB1.out.output, HB1.out.size, HB1.out.block⟩).mono HWW.out.size)).setCell (by have := HBW.out.size; simpa using this) _).setCell (by have := HBW.out.size; simpa using this) _, blk_put (blk_put HP1.out 0 _ rfl) 1 _ rfl⟩⟩
  case rest =>
  obtain ⟨rfl, HC⟩ := hcut
  have HW3 := Aside0.mk HC.out.1
  have HPS := Aside0.mk HC.out.2
  clear HC
  by_cases k0 : ro = 0
  · subst k0
    go_wp2_with (fail)
    have hpS := HPS.out
    have hI3 : RS w0 wc P g A c syms place early asked left := RS_below HI.out HW3.out
    have hbb3 : Below w0.heap.size w0 wc := below_weaken HB.out HB.out.size HW3.out
    have hkk3 : Kept w wc P := ⟨HW3.out.size, fun i hi hn => HW3.out.block i hi⟩
    obtain ⟨nm3, lv3, _, _, hg3, h03, h13, hN3, hL3⟩ := hI3
    obtain ⟨L3, cc3, rfl⟩ := Kd.R_slice hL3
    obtain ⟨_, hlc3, _⟩ := Kd.R_reads' hL3
    have s5 : wc.cell? ⟨g, 5, none⟩ = some (.slice L3 left.length cc3) := (blk_cell hg3 5).trans rfl
    have s6 : wc.frozen? ⟨g, 5, none⟩ = false := blk_frozen hg3 5
    have p0 : wc.cell? ⟨wq.heap.size, 0, none⟩ = some (.int .u32 rv) := (blk_cell hpS 0).trans rfl
    have p1 : wc.cell? ⟨wq.heap.size, 1, none⟩ = some (.int .i64 rc) := (blk_cell hpS 1).trans rfl
    have hgl3 : g < wc.heap.size := (Array.getElem?_eq_some_iff.1 hg3).1
    have hpl3 : wq.heap.size < wc.heap.size := (Array.getElem?_eq_some_iff.1 hpS).1
    have HG3 := Aside0.mk hg3
    have HN3 := Aside0.mk hN3
    have HL3 := Aside0.mk hL3
    have HBB3 := Aside0.mk hbb3
    have HKK3 := Aside0.mk hkk3
    clear hpS hg3 hN3 hL3 hbb3 hkk3 d5 e0 e1 e2 e3 e4 e5 e6 y7 y8 y9
    have hwr : IntKind.i64.wrap ((left.length : Int) - 2) = (left.length : Int) - 2 := by
      rw [i64_w]
      unfold wrap64
      omega
    have hge3 : (0 : Int) ≤ (left.length : Int) - 2 := by omega
    have hle3 : (left.length : Int) - 2 ≤ (cc3 : Int) := by omega
    have HOB := Aside0.mk (show (Value.slice L3 (left.length - 2) cc3).ownBlock = (Value.slice L3 left.length cc3).ownBlock from by cases L3 <;> rfl)
    have HL4 := Aside0.mk (show (left.take (left.length - 2) ++ [(⟨rv, rc⟩ : S86)]).length = left.length - 2 + 1 from by simp)
    go_region_law (refine Kd.R_append_step k86 (w0 := w0) (W := wc.drew) w0.heap.size (by rfl) (.tmp 85) (.tmp 87) 75 86 (.agg #[.int .u32 0, .int .i64 0]) 16 rfl Tryd.underlying75 infoPart rfl (by decide) (by omega) (.slice L3 (left.length - 2) cc3) (left.take (left.length - 2)) (⟨rv, rc⟩ : S86) [.int .u32 rv, .int .i64 rc] (fun k => P k ∧ k ≠ g) (fun _ => False) rfl rfl (k86_mkM _ _ _ (⟨rv, rc⟩ : S86)) (fun _ hk => hk.elim) (fun k hk => ⟨HP.out k (Nat.le_trans HKK3.out.1 hk), by have : wc.heap.size ≤ k := hk; omega⟩) (Kd.R_take (Kd.R_drew HL3.out) (by omega)) (below_drew1 HBB3.out) (by exact HBB3.out.size) (by rw [List.length_take]; omega) ?_; intro v4 w4 ho4 hb4 hg4 hat4; rw [HOB.out] at hg4; obtain ⟨A4, cc4, he4⟩ := Kd.R_slice ho4; rw [HL4.out] at he4; subst he4; have HO4 := Aside0.mk ho4; have HG4 := Aside0.mk hg4; have t6 : w4.frozen? ⟨g, 5, none⟩ = false := blk_frozen ((hg4.block g hgl3 (fun e => (HL3.out.1 g e.symm).2 rfl)).trans HG3.out) 5; have t5 : w4.cell? ⟨g, 5, none⟩ = some (.slice L3 left.length cc3) := (blk_cell ((hg4.block g hgl3 (fun e => (HL3.out.1 g e.symm).2 rfl)).trans HG3.out) 5).trans rfl; clear ho4 hb4 hg4 hat4)
    all_goals
      go_wp2_with (fail)
      go_ret
      refine ⟨rfl, ?_⟩
      obtain ⟨r1, r2, r3⟩ := node_fin P g A c syms place early hPg hgB HG3.out h03 h13 HN3.out HL3.out HBB3.out HKK3.out (⟨HG4.out.os, HG4.out.tape, HG4.out.output, HG4.out.size, HG4.out.block⟩ : wc.grownBy _ _) HO4.out
      first | exact ⟨⟨asked, Int.le_refl _, by omega, r1⟩, r2, r3⟩ | (simp only [show left.length - 2 + 1 = left.length - 1 from by omega] at r1 r2 r3; exact ⟨⟨asked, Int.le_refl _, by omega, r1⟩, r2, r3⟩)
  · go_wp2_with (fail)
    go_ret
    refine ⟨by unfold codeV; rw [if_neg k0]; rfl, ?_⟩
    try rw [if_neg k0]
    exact ⟨⟨asked, Int.le_refl _, by omega, RS_below HI.out HW3.out⟩, below_weaken HB.out HB.out.size HW3.out, ⟨HW3.out.size, fun i hi hn => HW3.out.block i hi⟩⟩
end Go.Proofs.YtgholjhcbhcicaaDoor.PAll
