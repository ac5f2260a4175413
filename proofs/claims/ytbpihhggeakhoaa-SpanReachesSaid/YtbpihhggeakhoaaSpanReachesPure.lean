/- SpanReaches: the pure statement. No machine in it. -/
import Derived.Test.YtbpihhggeakhoaaSpanPure
import Derived.Test.YtbpihhggeakhoaaPAllx8
namespace Go.Proofs.Ytbpihhggeakhoaa.PAll
set_option linter.unusedSimpArgs false
set_option linter.unusedVariables false
open Go.RowKit Go.Proofs.YtbpihhggeakhoaaW.PrintWords Go.Proofs.YtbpihhggeakhoaaW.PrintLast Go.Proofs.YtbpihhggeakhoaaW.PrintMore

theorem SpanReaches (a0_0 a0_1 a0_2 : Int) (a0_3 : ByteArray) (a0_4 a0_5 a0_6 a0_7 a0_8 : Int) (a0_9 : ByteArray) (a0_10 : Int) (l0_11 : List S86) (a0_12 : Int) (a0_13 a0_14 : Bool) (size far : Int) (h0 : -2147483648 ≤ far) (h1 : far ≤ 2147483647) : typecaselaw18_SpanReaches.f 40 a0_0 a0_1 a0_2 a0_3 a0_4 a0_5 a0_6 a0_7 a0_8 a0_9 a0_10 l0_11 a0_12 a0_13 a0_14 size far = some true := by
  unfold typecaselaw18_SpanReaches.f
  rw [awake_true 17]
  simp only [Option.bind_some]
  rw [if_pos trivial]
  split
  · rfl
  · rw [reach_prog 17 _ _ _ _ _ _ _ _ _ _ _ _ _ _ _ _ _ h0 h1, reach_ref 30 _ _ _ _ _ _ _ _ _ _ _ _ _ _ _ _ _ h0 h1]
    simp
end Go.Proofs.Ytbpihhggeakhoaa.PAll
