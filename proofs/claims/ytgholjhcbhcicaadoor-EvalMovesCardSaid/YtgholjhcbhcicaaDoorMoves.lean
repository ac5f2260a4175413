/- EvalMoves: the walk. -/
import Derived.Test.YtgholjhcbhcicaaDoorMovesPure
import Derived.Test.YtgholjhcbhcicaaDoorEarly
namespace Go.Proofs.YtgholjhcbhcicaaDoor.PAll
open Go.RowKit Go.Proofs.YtgholjhcbhcicaaDoorW.PrintWords Go.Proofs.YtgholjhcbhcicaaDoorW.PrintLast Go.Proofs.YtgholjhcbhcicaaDoorW.PrintMore Go.Proofs.YtgholjhcbhcicaaDoor.Errs Go.Maps
set_option linter.unusedVariables false
set_option linter.unusedSimpArgs false
theorem infoSymD : (Tryd.prog.info? 49).map (fun i => (i.zero, i.size, i.bytes)) = some (some (.agg #[.string ⟨#[]⟩, .int .u32 0, .int .i64 0]), k49.sz, 32) := by kernel_rfl
theorem rd47_eq {l : List S47} {i : Nat} (h : i < l.length) : rd_T47 l (i : Int) = l[i] := by simp [rd_T47, List.getD_eq_getElem?_getD, List.getElem?_eq_getElem h]
theorem rd49_eq {l : List S49} {i : Nat} (h : i < l.length) : rd_T49 l (i : Int) = l[i] := by simp [rd_T49, List.getD_eq_getElem?_getD, List.getElem?_eq_getElem h]
theorem take_mv (y : Int) {l : List S49} {i : Nat} (h : i < l.length) : (l.take (i + 1)).map (mvD y) = (l.take i).map (mvD y) ++ [mvD y (rd_T49 l (i : Int))] := by
  rw [List.take_succ_eq_append_getElem h, List.map_append, rd49_eq h]
  rfl
set_option maxHeartbeats 16000000 in
set_option maxRecDepth 100000 in
theorem moves_any (A0 A1 : Option Addr) (c0 c1 : Nat) (l : List S47) (syms : List S49) (a b : Int) (w : World) (hg : w.cell? ⟨0, 0, none⟩ = some (.iface 133 (.agg #[.pointer (some ⟨1, 40, none⟩)]))) (hl : Kd.C k47 w A0 l.length l) (hS : Kd.C k49 w A1 syms.length syms) (hc0 : l.length ≤ c0) (hc1 : syms.length ≤ c1)
    (ha : U32 a) (hn : ∀ n ∈ l, U32 n.f3 ∧ n.f4.size ≤ maxLen) (hs : ∀ s ∈ syms, U32 s.f1 ∧ s.f0.size ≤ maxLen) :
    Calls Tryd.prog 6 #[.slice A0 l.length c0, .slice A1 syms.length c1, .int .u32 a, .int .u32 b] w fun e w' => e = .returned (.bool true) ∧ Below w.heap.size w w' := by
  have hl0 : 0 < w.heap.size := World.block_lt_of_cell? w _ hg
  have HG := Aside0.mk hg
  have HL := Aside0.mk hl
  have HS := Aside0.mk hS
  have HN := Aside0.mk hn
  have HSS := Aside0.mk hs
  clear hg hl hS hn hs
  by_cases hb1 : 300 < l.length
  · have q0 : (300 : Int) < (l.length : Int) := by omega
    go_enter Tryd.func6, Tryd.ntmps6
    go_wp2_with (fail)
    refine (awake_any _ HG.out).mono ?_
    rintro e w1 ⟨rfl, hb1⟩
    have HB1 := Aside0.mk hb1
    clear hb1
    go_wp2_with (fail)
    go_ret
    exact ⟨rfl, HB1.out⟩
  by_cases hb2 : 100 < syms.length
  · have q0 : ¬ (300 : Int) < (l.length : Int) := by omega
    have q1 : (100 : Int) < (syms.length : Int) := by omega
    go_enter Tryd.func6, Tryd.ntmps6
    go_wp2_with (fail)
    refine (awake_any _ HG.out).mono ?_
    rintro e w1 ⟨rfl, hb1⟩
    have HB1 := Aside0.mk hb1
    clear hb1
    go_wp2_with (fail)
    go_ret
    exact ⟨rfl, HB1.out⟩
  go_enter Tryd.func6, Tryd.ntmps6
  go_wp2_with (fail)
  refine (awake_any _ HG.out).mono ?_
  rintro e w1 ⟨rfl, hb1⟩
  have HB1 := Aside0.mk hb1
  clear hb1
  have q0 : ¬ (300 : Int) < (l.length : Int) := by omega
  have q1 : ¬ (100 : Int) < (syms.length : Int) := by omega
  go_wp2_with (fail)
  clear q0 q1
  go_loop [9] (fun v9 => ∃ k : Nat, k ≤ l.length ∧ v9 = .int .i64 (k : Int) ∧ Aside0 (∀ i (hi : i < l.length), i < k → l[i].f0 ≠ 6 ∧ l[i].f0 ≠ 7 ∧ l[i].f0 ≠ 8)) (fun v9 => l.length - (intOf v9).toNat)
  case atStart => exact ⟨0, by omega, rfl, ⟨fun i hi h => by omega⟩⟩
  case round =>
    obtain ⟨k, hk, rfl, HK⟩ := hrel
    by_cases hlt : k < l.length
    · obtain ⟨ad, rfl, x0, -, -, -, -⟩ := at_T47 (Kd.C_below HL.out HB1.out) k (by omega) (by omega)
      simp only [Int.toNat_natCast] at x0
      have HX := Aside0.mk (rd47_eq hlt)
      by_cases k6 : (rd_T47 l (k : Int)).f0 = 6
      · have t6 : ((rd_T47 l (k : Int)).f0 == 6) = true := by simp [k6]
        clear k6
        go_wp2_with (fail)
        go_ret
        exact ⟨rfl, HB1.out⟩
      have t6 : ((rd_T47 l (k : Int)).f0 == 6) = false := by simp [k6]
      by_cases k7 : (rd_T47 l (k : Int)).f0 = 7
      · have t7 : ((rd_T47 l (k : Int)).f0 == 7) = true := by simp [k7]
        clear k6 k7
        go_wp2_with (fail)
        go_ret
        exact ⟨rfl, HB1.out⟩
      have t7 : ((rd_T47 l (k : Int)).f0 == 7) = false := by simp [k7]
      by_cases k8 : (rd_T47 l (k : Int)).f0 = 8
      · have t8 : ((rd_T47 l (k : Int)).f0 == 8) = true := by simp [k8]
        clear k6 k7 k8
        go_wp2_with (fail)
        go_ret
        exact ⟨rfl, HB1.out⟩
      have t8 : ((rd_T47 l (k : Int)).f0 == 8) = false := by simp [k8]
      have HKK := Aside0.mk (And.intro k6 (And.intro k7 k8))
      clear k6 k7 k8
      go_wp2_with (fail)
      go_round
      case rel =>
        refine ⟨k + 1, by omega, by go_num, ⟨fun i hi h => ?_⟩⟩
        by_cases hik : i = k
        · subst hik
          have := HKK.out
          rw [HX.out] at this
          exact this
        · exact HK.out i hi (by omega)
      case measure => simp [intOf]; omega
    · have HKA := Aside0.mk (show ∀ n ∈ l, n.f0 ≠ 6 ∧ n.f0 ≠ 7 ∧ n.f0 ≠ 8 from fun n hn => by
        obtain ⟨i, hi, rfl⟩ := List.getElem_of_mem hn
        exact HK.out i hi (by omega))
      clear HK
      go_wp2_with (fail)
      go_loopw [10, 11, 12] (fun v10 v11 v12 wr => ∃ k : Nat, k ≤ syms.length ∧ v11 = .int .i64 (k : Int) ∧ Aside0 (Kd.R k49 49 wr w.heap.size (fun _ => True) v10 ((syms.take k).map (mvD b))) ∧ Aside0 (Below w.heap.size w wr)) (fun _ v11 _ _ => syms.length - (intOf v11).toNat)
      case atStart => exact ⟨0, by omega, rfl, ⟨Kd.R_nil _ _ _ _ _⟩, ⟨HB1.out⟩⟩
      case round =>
        obtain ⟨j, hj, rfl, HR, HB⟩ := hrel
        by_cases hjl : j < syms.length
        · obtain ⟨ad, rfl, x0, x1, x2⟩ := at_T49 (Kd.C_below HS.out HB.out) j (by omega) (by omega)
          simp only [Int.toNat_natCast] at x0 x1 x2
          have HTM := Aside0.mk (take_mv b hjl)
          have hlen : ((syms.take j).map (mvD b)).length ≤ 100 := by rw [List.length_map, List.length_take]; omega
          by_cases k0 : (rd_T49 syms (j : Int)).f2 = 0
          · have t0 : ((rd_T49 syms (j : Int)).f2 != 0) = false := by simp [k0]
            have HMV := Aside0.mk (show mvD b (rd_T49 syms (j : Int)) = ⟨(rd_T49 syms (j : Int)).f0, (rd_T49 syms (j : Int)).f1, (rd_T49 syms (j : Int)).f2⟩ from if_pos k0)
            clear k0
            go_wp2_with (at_builtin; refine Kd.R_append k49 (w0 := w) (W := wr.alloc (.cells #[.string (rd_T49 syms (j : Int)).f0, .int .u32 (rd_T49 syms (j : Int)).f1, .int .i64 (rd_T49 syms (j : Int)).f2] 49)) w.heap.size rfl (.tmp 75) (.tmp 77) 23 49 (.agg #[.string ⟨#[]⟩, .int .u32 0, .int .i64 0]) 32 rfl Tryd.underlying23 infoSymD rfl (by decide) (by omega) _ ((syms.take j).map (mvD b)) (⟨(rd_T49 syms (j : Int)).f0, (rd_T49 syms (j : Int)).f1, (rd_T49 syms (j : Int)).f2⟩ : S49) [.string (rd_T49 syms (j : Int)).f0, .int .u32 (rd_T49 syms (j : Int)).f1, .int .i64 (rd_T49 syms (j : Int)).f2] (fun _ => True) (fun _ => False) rfl (by go_simp) (k49_mkM _ _ _ (⟨(rd_T49 syms (j : Int)).f0, (rd_T49 syms (j : Int)).f1, (rd_T49 syms (j : Int)).f2⟩ : S49)) (fun _ hk => hk.elim) (fun _ _ => trivial) (Kd.R_alloc HR.out _) (HB.out.alloc HB.out.size _) (by have := HB.out.size; simp; omega) (by omega) ?_; intro v1 w2 hR2 hB2 _ _; have HR2 := Aside0.mk hR2; have HB2 := Aside0.mk hB2; clear hR2 hB2)
            go_roundw
            case rel => exact ⟨j + 1, by omega, by go_num, ⟨by rw [HTM.out, HMV.out]; exact HR2.out⟩, HB2⟩
            case measure => simp [intOf]; omega
          · have t0 : ((rd_T49 syms (j : Int)).f2 != 0) = true := by simp [k0]
            have HMV := Aside0.mk (show mvD b (rd_T49 syms (j : Int)) = ⟨(rd_T49 syms (j : Int)).f0, ((rd_T49 syms (j : Int)).f1 + b) % 4294967296, (rd_T49 syms (j : Int)).f2⟩ from if_neg k0)
            clear k0
            go_wp2_with (at_builtin; refine Kd.R_append k49 (w0 := w) (W := wr.alloc (.cells #[.string (rd_T49 syms (j : Int)).f0, .int .u32 (((rd_T49 syms (j : Int)).f1 + b) % 4294967296), .int .i64 (rd_T49 syms (j : Int)).f2] 49)) w.heap.size rfl (.tmp 75) (.tmp 77) 23 49 (.agg #[.string ⟨#[]⟩, .int .u32 0, .int .i64 0]) 32 rfl Tryd.underlying23 infoSymD rfl (by decide) (by omega) _ ((syms.take j).map (mvD b)) (⟨(rd_T49 syms (j : Int)).f0, ((rd_T49 syms (j : Int)).f1 + b) % 4294967296, (rd_T49 syms (j : Int)).f2⟩ : S49) [.string (rd_T49 syms (j : Int)).f0, .int .u32 (((rd_T49 syms (j : Int)).f1 + b) % 4294967296), .int .i64 (rd_T49 syms (j : Int)).f2] (fun _ => True) (fun _ => False) rfl (by go_simp) (k49_mkM _ _ _ (⟨(rd_T49 syms (j : Int)).f0, ((rd_T49 syms (j : Int)).f1 + b) % 4294967296, (rd_T49 syms (j : Int)).f2⟩ : S49)) (fun _ hk => hk.elim) (fun _ _ => trivial) (Kd.R_alloc HR.out _) (HB.out.alloc HB.out.size _) (by have := HB.out.size; simp; omega) (by omega) ?_; intro v1 w2 hR2 hB2 _ _; have HR2 := Aside0.mk hR2; have HB2 := Aside0.mk hB2; clear hR2 hB2)
            go_roundw
            case rel => exact ⟨j + 1, by omega, by go_num, ⟨by rw [HTM.out, HMV.out]; exact HR2.out⟩, HB2⟩
            case measure => simp [intOf]; omega
        · have hR := HR.out
          rw [List.take_of_length_le (by omega)] at hR
          obtain ⟨M, mc, hv⟩ := Kd.R_slice hR
          have hlm : (syms.map (mvD b)).length = syms.length := by simp
          rw [hlm] at hv
          subst hv
          obtain ⟨-, hmc, hCM⟩ := Kd.R_reads' hR
          have HCM := Aside0.mk hCM
          have HLM := Aside0.mk hlm
          have HMC := Aside0.mk hmc
          clear hR HR hCM hlm hmc
          go_wp2_with (fail)
          have hsr : ∀ s ∈ syms.map symOf, GoodS s := by
            intro s hs
            obtain ⟨t, ht, rfl⟩ := List.mem_map.1 hs
            refine ⟨(HSS.out t ht).1, ?_⟩
            simp only [symOf]
            split <;> simp
          have hsz : ∀ s ∈ syms.map symOf, s.f0.size ≤ maxLen := by
            intro s hs
            obtain ⟨t, ht, rfl⟩ := List.mem_map.1 hs
            exact (HSS.out t ht).2
          have hsr' : ∀ s ∈ (syms.map (mvD b)).map symOf, GoodS s := by
            rw [syms_mv b syms (fun s hs => (HSS.out s hs).1)]
            intro s hs
            obtain ⟨t, ht, rfl⟩ := List.mem_map.1 hs
            exact ⟨by simp only [mvS, U32]; omega, (hsr t ht).2⟩
          have hsz' : ∀ s ∈ (syms.map (mvD b)).map symOf, s.f0.size ≤ maxLen := by
            rw [syms_mv b syms (fun s hs => (HSS.out s hs).1)]
            intro s hs
            obtain ⟨t, ht, rfl⟩ := List.mem_map.1 hs
            exact hsz t ht
          have hv1 := value_eq l (syms.map symOf) a false ha hsr (fun n hn => (HN.out n hn).1)
          have hv2 := value_eq l ((syms.map (mvD b)).map symOf) ((a + b) % 4294967296) false (by unfold U32; omega) hsr' (fun n hn => (HN.out n hn).1)
          have hg1 := valueT_good l (syms.map symOf) a false ha hsr (fun n hn => (HN.out n hn).1)
          rw [syms_mv b syms (fun s hs => (HSS.out s hs).1), valueT_mv b l _ a ha hsr (fun n hn => (HN.out n hn).1) HKA.out] at hv2
          rw [← syms_mv b syms (fun s hs => (HSS.out s hs).1)] at hv2
          generalize valueT l (syms.map symOf) a false = r at hv1 hv2 hg1
          obtain ⟨v, c, f⟩ := r
          simp only at hv1 hv2 hg1
          obtain ⟨hvu, hcl⟩ := hg1
          have HV1 := Aside0.mk hv1
          have HV2 := Aside0.mk hv2
          clear hv1 hv2 HKA
          have HSZ := Aside0.mk hsz
          have HSZ' := Aside0.mk hsz'
          clear hsr hsr' hsz hsz'
          have hsl : syms.length ≤ 1000 := by omega
          refine (typecaselaw12_Syms.calls (syms.length + 1) A1 c1 syms (syms.map symOf) wr (Kd.C_below HS.out HB.out) hc1 (syms_f syms hsl)).mono ?_
          rintro e w2 ⟨sv, rfl, hR2, hb2⟩
          obtain ⟨S2, sc2, rfl⟩ := Kd.R_slice hR2
          obtain ⟨-, -, hC2⟩ := Kd.R_reads' hR2
          have HCM2 := Aside0.mk (Kd.C_below HCM.out hb2)
          have HB2 := Aside0.mk (below_step HB.out hb2)
          have HC2 := Aside0.mk hC2
          clear hR2 hb2 hC2 HCM
          go_wp2_with (fail)
          have hV := value_any 3 l (syms.map symOf) a false A0 S2 c0 sc2 v c f w2 ((HB2.out.cell hl0).trans HG.out) (Kd.C_below HL.out HB2.out) HC2.out (fun n hn => (HN.out n hn).2) HSZ.out (by omega) HV1.out
          rw [List.length_map] at hV
          refine hV.mono ?_
          clear hV
          rintro e w3 ⟨ev, rfl, he, hb3⟩
          have HCM3 := Aside0.mk (Kd.C_below HCM2.out hb3)
          have HB3 := Aside0.mk (below_step HB2.out hb3)
          have HE := Aside0.mk he
          clear hb3 he HCM2
          go_wp2_with (fail)
          have hS4 := typecaselaw12_Syms.calls (syms.length + 1) M mc (syms.map (mvD b)) ((syms.map (mvD b)).map symOf) w3 HCM3.out (by rw [HLM.out]; exact HMC.out) (by have := syms_f (syms.map (mvD b)) (by rw [HLM.out]; exact hsl); rwa [HLM.out] at this)
          rw [HLM.out] at hS4
          refine hS4.mono ?_
          clear hS4
          rintro e w4 ⟨sv, rfl, hR4, hb4⟩
          obtain ⟨S4, sc4, rfl⟩ := Kd.R_slice hR4
          obtain ⟨-, -, hC4⟩ := Kd.R_reads' hR4
          have HB4 := Aside0.mk (below_step HB3.out hb4)
          have HC4 := Aside0.mk hC4
          clear hR4 hb4 hC4
          go_wp2_with (fail)
          have hV := value_any 3 l ((syms.map (mvD b)).map symOf) ((a + b) % 4294967296) false A0 S4 c0 sc4 _ c f w4 ((HB4.out.cell hl0).trans HG.out) (Kd.C_below HL.out HB4.out) HC4.out (fun n hn => (HN.out n hn).2) HSZ'.out (by omega) HV2.out
          rw [List.length_map, List.length_map] at hV
          refine hV.mono ?_
          clear hV
          rintro e w5 ⟨ev', rfl, he', hb5⟩
          have HB5 := Aside0.mk (below_step HB4.out hb5)
          clear hb5
          cases f with
          | some f =>
            obtain ⟨x, y, z⟩ := f
            obtain ⟨bb, rfl, _⟩ := HE.out
            obtain ⟨bb', rfl, _⟩ := he'
            go_wp2_with (fail)
            go_ret
            exact ⟨rfl, HB5.out⟩
          | none =>
            obtain rfl : ev = .nilIface := HE.out
            obtain rfl : ev' = .nilIface := he'
            have hvm := u32_mod hvu
            rcases hcl with rfl | rfl
            · have e0 : (v + 0 * b) % 4294967296 = v := by rw [Int.zero_mul, Int.add_zero]; exact hvm
              rw [e0]
              clear e0 hvm
              go_wp2_with (fail)
              go_ret
              exact ⟨by simp, HB5.out⟩
            · rw [Int.one_mul]
              clear hvm
              go_wp2_with (fail)
              go_ret
              exact ⟨by simp, HB5.out⟩
end Go.Proofs.YtgholjhcbhcicaaDoor.PAll
