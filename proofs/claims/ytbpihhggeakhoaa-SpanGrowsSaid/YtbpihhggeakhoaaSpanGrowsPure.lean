/- SpanGrows: the pure statement. No machine in it. -/
import Derived.Test.YtbpihhggeakhoaaSpanPure
import Derived.Test.YtbpihhggeakhoaaPAllx10
namespace Go.Proofs.Ytbpihhggeakhoaa.PAll
set_option linter.unusedSimpArgs false
set_option linter.unusedVariables false
open Go.RowKit Go.Proofs.YtbpihhggeakhoaaW.PrintWords Go.Proofs.YtbpihhggeakhoaaW.PrintLast Go.Proofs.YtbpihhggeakhoaaW.PrintMore

theorem SpanGrows (a0_0 a0_1 a0_2 : Int) (a0_3 : ByteArray) (a0_4 a0_5 a0_6 a0_7 a0_8 : Int) (a0_9 : ByteArray) (a0_10 : Int) (l0_11 : List S86) (a0_12 : Int) (a0_13 a0_14 : Bool) (size far less : Int) (h0 : -2147483648 ≤ far) (h1 : far ≤ 2147483647) (l0 : -2147483648 ≤ less) (l1 : less ≤ 2147483647) : typecaselaw18_SpanGrows.f 40 a0_0 a0_1 a0_2 a0_3 a0_4 a0_5 a0_6 a0_7 a0_8 a0_9 a0_10 l0_11 a0_12 a0_13 a0_14 size far less = some true := by
  unfold typecaselaw18_SpanGrows.f
  rw [awake_true 17]
  simp only [Option.bind_some]
  rw [if_pos trivial]
  have j0t : typecaselaw18_SpanGrows.j0 40 size far less true a0_0 a0_1 a0_2 a0_3 a0_4 a0_5 a0_6 a0_7 a0_8 a0_9 a0_10 l0_11 a0_12 a0_13 a0_14 = some true := by simp only [typecaselaw18_SpanGrows.j0]; rw [if_pos trivial]
  by_cases hl : (a0_3.size : Int) > 1000
  · rw [if_pos hl]; exact j0t
  · rw [if_neg hl, reach_prog 17 _ _ _ _ _ _ _ _ _ _ _ _ _ _ _ _ _ h0 h1]
    simp only [Option.bind_some]
    cases hr : reach a0_0 (cls a0_0 a0_4 a0_6 a0_7 a0_3.size a0_10 a0_13 a0_14) size far with
    | false => exact j0t
    | true =>
      simp only [typecaselaw18_SpanGrows.j0, Bool.not_true]
      rw [if_neg (by decide), next_prog 17]
      simp only [Option.bind_some]
      have hw : ∀ x, x ∈ (cls a0_0 a0_4 a0_6 a0_7 a0_3.size a0_10 a0_13 a0_14) → (a0_0 = 4 ∨ a0_0 = 5 ∨ a0_0 = 6) → x = 2 ∨ x = 4 ∨ x = 8 := fun x hx hk => cls_few _ _ _ _ _ _ _ _ x hx hk
      have j1t : typecaselaw18_SpanGrows.j1 39 size far less false a0_0 a0_1 a0_2 a0_3 a0_4 a0_5 a0_6 a0_7 a0_8 a0_9 a0_10 l0_11 a0_12 a0_13 a0_14 = some true := by
        simp only [typecaselaw18_SpanGrows.j1]
        rw [if_neg (by decide)]
        simp only [tmod2]
        by_cases he : less % 2 = 0
        · rw [if_pos he]
          have hp := reach_prog 15 a0_0 a0_1 a0_2 a0_3 a0_4 a0_5 a0_6 a0_7 a0_8 a0_9 a0_10 l0_11 a0_12 a0_13 a0_14 size less l0 l1
          rw [show 15 + 23 = 38 from rfl] at hp
          have hq := reach_less a0_0 (cls a0_0 a0_4 a0_6 a0_7 a0_3.size a0_10 a0_13 a0_14) size far less hr he
          repeat' split
          all_goals first
            | rfl
            | (rw [hp, hq (by omega)]; rfl)
        · rw [if_neg he]
      cases hn : nxt (cls a0_0 a0_4 a0_6 a0_7 a0_3.size a0_10 a0_13 a0_14) size with
      | mk n ok =>
        cases ok with
        | false => exact j1t
        | true =>
          simp only []
          rw [if_pos trivial, reach_prog 16 _ _ _ _ _ _ _ _ _ _ _ _ _ _ _ _ _ h0 h1]
          simp only [Option.bind_some]
          rw [reach_next _ _ _ _ _ hw hr hn]
          exact j1t
end Go.Proofs.Ytbpihhggeakhoaa.PAll
