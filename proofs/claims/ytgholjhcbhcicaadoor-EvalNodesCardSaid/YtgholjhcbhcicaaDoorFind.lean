/- The search for a symbol by its name, one by one. -/
import Derived.Test.YtgholjhcbhcicaaDoorErrs
import Derived.Test.YtgholjhcbhcicaaDoorPAllx0
import Derived.Outline
import Derived.ChangeAlike
import Derived.Deep.QuietTactic
import Derived.BigQuiet
namespace Go.Proofs.YtgholjhcbhcicaaDoor.PAll
open Go.RowKit Go.Proofs.YtgholjhcbhcicaaDoorW.PrintWords Go.Proofs.YtgholjhcbhcicaaDoorW.PrintLast Go.Proofs.YtgholjhcbhcicaaDoorW.PrintMore Go.Proofs.YtgholjhcbhcicaaDoor.Errs
set_option linter.unusedVariables false
set_option linter.unusedSimpArgs false
/-- The place of the first symbol of a name. -/
def symIdx (l : List S52) (nm : ByteArray) : Option Nat := l.findIdx? (fun s => s.f0.toList == nm.toList)
/-- As Go tells it: -1 of none. -/
def idxInt : Option Nat → Int
  | some i => (i : Int)
  | none => -1
set_option maxHeartbeats 4000000 in
theorem find1_any (x : S52) (p : Nat) (nm : ByteArray) (w : World) (hp : w.cell? ⟨p, 0, none⟩ = some (.string nm)) :
    Calls Tryd.prog 64 #[.agg #[.string x.f0, .int .u32 x.f1, .int .i64 x.f2], .pointer (some ⟨p, 0, none⟩)] w fun e w' => e = .returned (.bool (x.f0.toList == nm.toList)) ∧ Below w.heap.size w w' := by
  have hlp := World.block_lt_of_cell? w _ hp
  go_enter Tryd.func64, Tryd.ntmps64
  go_wp2
  go_ret
  exact ⟨rfl, (Below.refl _ _).alloc (Nat.le_refl _) _⟩
theorem symIdx_none {l : List S52} {nm : ByteArray} (h : ∀ i (hi : i < l.length), (l[i].f0.toList == nm.toList) = false) : symIdx l nm = none := by
  unfold symIdx
  rw [List.findIdx?_eq_none_iff]
  intro x hx
  obtain ⟨i, hi, rfl⟩ := List.getElem_of_mem hx
  exact h i hi
theorem symIdx_some {l : List S52} {nm : ByteArray} (k : Nat) (hk : k < l.length) (h : ∀ i (hi : i < l.length), i < k → (l[i].f0.toList == nm.toList) = false) (he : (l[k].f0.toList == nm.toList) = true) : symIdx l nm = some k := by
  unfold symIdx
  rw [List.findIdx?_eq_some_iff_getElem]
  refine ⟨hk, he, fun j hj => ?_⟩
  rw [h j (by omega) hj]
  decide
set_option maxHeartbeats 4000000 in
set_option maxRecDepth 100000 in
theorem index_any (A : Option Addr) (c : Nat) (l : List S52) (p : Nat) (nm : ByteArray) (w : World) (hr : Kd.C k52 w A l.length l) (hp : w.cell? ⟨p, 0, none⟩ = some (.string nm)) :
    Calls Tryd.prog 63 #[.slice A l.length c, .func (.func 64) #[] #[.pointer (some ⟨p, 0, none⟩)]] w fun e w' => e = .returned (.int .i64 (idxInt (symIdx l nm))) ∧ Below w.heap.size w w' := by
  have hlp := World.block_lt_of_cell? w _ hp
  have hlen : l.length ≤ 9223372036854775807 := hr.2.1
  have HR := Aside0.mk hr
  clear hr
  go_enter Tryd.func63, Tryd.ntmps63
  go_wp2
  go_loopw [5, 8] (fun v5 v8 wr => ∃ k : Nat, k ≤ l.length ∧ v8 = .int .i64 (k : Int) ∧ Aside0 (∀ i (hi : i < l.length), i < k → (l[i].f0.toList == nm.toList) = false) ∧ Aside0 (Below w.heap.size w wr)) (fun _ v8 _ => l.length - (intOf v8).toNat)
  case atStart => exact ⟨0, by omega, rfl, ⟨fun i hi h => by omega⟩, ⟨Below.refl _ _⟩⟩
  case round =>
    obtain ⟨k, hk, rfl, HF, HB⟩ := hrel
    by_cases hlt : k < l.length
    · obtain ⟨ad, rfl, hc0, hc1, hc2⟩ := at_T52 (Kd.C_below HR.out HB.out) k (by omega) (by omega)
      simp only [Int.toNat_natCast] at hc0 hc1 hc2
      have HX := Aside0.mk (show rd_T52 l (k : Int) = l[k] from by simp [rd_T52, List.getD_eq_getElem?_getD, List.getElem?_eq_getElem hlt])
      have hp2 := Aside0.mk (pw_cell_below HB.out hp)
      cases hb : ((rd_T52 l (k : Int)).f0.toList == nm.toList) with
      | true =>
        have Hb := Aside0.mk hb
        clear hb hp
        go_wp2_with (fail)
        refine (find1_any (rd_T52 l (k : Int)) p nm _ hp2.out).mono ?_
        rintro e w1 ⟨rfl, hbw⟩
        rw [Hb.out]
        have HW := Aside0.mk hbw
        clear hbw hc0 hc1 hc2
        go_wp2_with (fail)
        go_ret
        have hb := Hb.out
        rw [HX.out] at hb
        rw [symIdx_some k hlt HF.out hb]
        exact ⟨rfl, below_step HB.out HW.out⟩
      | false =>
        have Hb := Aside0.mk hb
        clear hb hp
        go_wp2_with (fail)
        refine (find1_any (rd_T52 l (k : Int)) p nm _ hp2.out).mono ?_
        rintro e w1 ⟨rfl, hbw⟩
        rw [Hb.out]
        have HW := Aside0.mk hbw
        clear hbw hc0 hc1 hc2
        go_wp2_with (fail)
        go_roundw
        case rel =>
          refine ⟨k + 1, by omega, by go_num, ⟨fun i hi h => ?_⟩, ⟨below_step HB.out HW.out⟩⟩
          by_cases hik : i = k
          · subst hik
            have hb := Hb.out
            rw [HX.out] at hb
            exact hb
          · exact HF.out i hi (by omega)
        case measure => simp [intOf]; omega
    · go_wp2_with (fail)
      go_ret
      rw [symIdx_none (fun i hi => HF.out i hi (by omega))]
      exact ⟨rfl, HB.out⟩
end Go.Proofs.YtgholjhcbhcicaaDoor.PAll
