/- EvalEarly: the walk. -/
import Derived.Test.YtgholjhcbhcicaaDoorTotal
namespace Go.Proofs.YtgholjhcbhcicaaDoor.PAll
open Go.RowKit Go.Proofs.YtgholjhcbhcicaaDoorW.PrintWords Go.Proofs.YtgholjhcbhcicaaDoorW.PrintLast Go.Proofs.YtgholjhcbhcicaaDoorW.PrintMore Go.Proofs.YtgholjhcbhcicaaDoor.Errs Go.Maps
set_option linter.unusedVariables false
set_option linter.unusedSimpArgs false
set_option maxHeartbeats 1000000 in
set_option maxRecDepth 100000 in
theorem early_any (A0 A1 : Option Addr) (c0 c1 : Nat) (l : List S47) (syms : List S49) (a b : Int) (w : World) (hg : w.cell? ⟨0, 0, none⟩ = some (.iface 133 (.agg #[.pointer (some ⟨1, 40, none⟩)]))) (hl : Kd.C k47 w A0 l.length l) (hS : Kd.C k49 w A1 syms.length syms) (hc0 : l.length ≤ c0) (hc1 : syms.length ≤ c1)
    (hn : ∀ n ∈ l, U32 n.f3 ∧ n.f4.size ≤ maxLen) (hs : ∀ s ∈ syms, U32 s.f1 ∧ s.f0.size ≤ maxLen) :
    Calls Tryd.prog 5 #[.slice A0 l.length c0, .slice A1 syms.length c1, .int .u32 a, .int .u32 b] w fun e w' => e = .returned (.bool true) ∧ Below w.heap.size w w' := by
  have hl0 : 0 < w.heap.size := World.block_lt_of_cell? w _ hg
  have HG := Aside0.mk hg
  have HL := Aside0.mk hl
  have HS := Aside0.mk hS
  have HN := Aside0.mk hn
  have HSS := Aside0.mk hs
  clear hg hl hS hn hs
  by_cases hb1 : 300 < l.length
  · have q0 : (300 : Int) < (l.length : Int) := by omega
    go_enter Tryd.func5, Tryd.ntmps5
    go_wp2_with (fail)
    refine (awake_any _ HG.out).mono ?_
    rintro e w1 ⟨rfl, hb1⟩
    have HB1 := Aside0.mk hb1
    clear hb1
    go_wp2_with (fail)
    go_ret
    exact ⟨rfl, HB1.out⟩
  by_cases hb2 : 100 < syms.length
  · have q0 : ¬ (300 : Int) < (l.length : Int) := by omega
    have q1 : (100 : Int) < (syms.length : Int) := by omega
    go_enter Tryd.func5, Tryd.ntmps5
    go_wp2_with (fail)
    refine (awake_any _ HG.out).mono ?_
    rintro e w1 ⟨rfl, hb1⟩
    have HB1 := Aside0.mk hb1
    clear hb1
    go_wp2_with (fail)
    go_ret
    exact ⟨rfl, HB1.out⟩
  go_enter Tryd.func5, Tryd.ntmps5
  go_wp2_with (fail)
  refine (awake_any _ HG.out).mono ?_
  rintro e w1 ⟨rfl, hb1⟩
  have HB1 := Aside0.mk hb1
  clear hb1
  have q0 : ¬ (300 : Int) < (l.length : Int) := by omega
  have q1 : ¬ (100 : Int) < (syms.length : Int) := by omega
  go_wp2_with (fail)
  have hsl : syms.length ≤ 1000 := by omega
  refine (typecaselaw12_Syms.calls (syms.length + 1) A1 c1 syms (syms.map symOf) w1 (Kd.C_below HS.out HB1.out) hc1 (syms_f syms hsl)).mono ?_
  rintro e w2 ⟨sv, rfl, hR2, hb2⟩
  obtain ⟨S2, sc2, rfl⟩ := Kd.R_slice hR2
  obtain ⟨_, _, hC2⟩ := Kd.R_reads' hR2
  have HB2 := Aside0.mk (below_step HB1.out hb2)
  have HC2 := Aside0.mk hC2
  clear hR2 hb2 hC2
  go_wp2_with (fail)
  have hsr : ∀ s ∈ syms.map symOf, U32 s.f1 ∧ (s.f2 = 0 ∨ s.f2 = 1) := by
    intro s hs
    obtain ⟨t, ht, rfl⟩ := List.mem_map.1 hs
    refine ⟨(HSS.out t ht).1, ?_⟩
    simp only [symOf]
    split <;> simp
  have hsz : ∀ s ∈ syms.map symOf, s.f0.size ≤ maxLen := by
    intro s hs
    obtain ⟨t, ht, rfl⟩ := List.mem_map.1 hs
    exact (HSS.out t ht).2
  obtain ⟨v, f, hv, hvu, hf1, hf2⟩ := value_early l (syms.map symOf) a hsr (fun n hn => (HN.out n hn).1)
  have hV := value_any 3 l (syms.map symOf) a true A0 S2 c0 sc2 v 0 f w2 ((HB2.out.cell hl0).trans HG.out) (Kd.C_below HL.out HB2.out) HC2.out (fun n hn => (HN.out n hn).2) hsz (by omega) hv
  rw [List.length_map] at hV
  refine hV.mono ?_
  clear hV
  rintro e w3 ⟨ev, rfl, he, hb3⟩
  have HB3 := Aside0.mk (below_step HB2.out hb3)
  clear hb3
  cases f with
  | some f =>
    obtain ⟨x, y, z⟩ := f
    obtain ⟨bb, rfl, _⟩ := he
    obtain rfl : v = 0 := hf1 (by simp)
    go_wp2_with (fail)
    go_ret
    exact ⟨rfl, HB3.out⟩
  | none =>
    obtain rfl : ev = .nilIface := he
    have HF2 := Aside0.mk (hf2 rfl b)
    clear hf1 hf2 hv
    go_wp2_with (fail)
    refine (typecaselaw12_Syms.calls (syms.length + 1) A1 c1 syms (syms.map symOf) w3 (Kd.C_below HS.out HB3.out) hc1 (syms_f syms hsl)).mono ?_
    rintro e w4 ⟨sv, rfl, hR4, hb4⟩
    obtain ⟨S4, sc4, rfl⟩ := Kd.R_slice hR4
    obtain ⟨_, _, hC4⟩ := Kd.R_reads' hR4
    have HB4 := Aside0.mk (below_step HB3.out hb4)
    have HC4 := Aside0.mk hC4
    clear hR4 hb4 hC4
    go_wp2_with (fail)
    have hV := value_any 3 l (syms.map symOf) b false A0 S4 c0 sc4 v 0 none w4 ((HB4.out.cell hl0).trans HG.out) (Kd.C_below HL.out HB4.out) HC4.out (fun n hn => (HN.out n hn).2) hsz (by omega) HF2.out
    rw [List.length_map] at hV
    refine hV.mono ?_
    clear hV
    rintro e w5 ⟨ev, rfl, he, hb5⟩
    obtain rfl : ev = .nilIface := he
    have HB5 := Aside0.mk (below_step HB4.out hb5)
    clear hb5
    go_wp2_with (fail)
    go_ret
    exact ⟨by simp, HB5.out⟩
end Go.Proofs.YtgholjhcbhcicaaDoor.PAll
