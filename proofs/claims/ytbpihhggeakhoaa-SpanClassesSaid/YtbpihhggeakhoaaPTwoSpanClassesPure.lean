/- SpanClasses: the pure statement. No machine in it. -/
import Derived.Test.YtbpihhggeakhoaaPTwoSpanPure
import Derived.Test.YtbpihhggeakhoaaPTwox8
namespace Go.Proofs.Ytbpihhggeakhoaa.PTwo
set_option linter.unusedSimpArgs false
set_option linter.unusedVariables false
open Go.RowKit Go.Proofs.YtbpihhggeakhoaaW.PrintWords Go.Proofs.YtbpihhggeakhoaaW.PrintLast Go.Proofs.YtbpihhggeakhoaaW.PrintMore

theorem SpanClasses (a0_0 a0_1 a0_2 : Int) (a0_3 : ByteArray) (a0_4 a0_5 a0_6 a0_7 a0_8 : Int) (a0_9 : ByteArray) (a0_10 : Int) (l0_11 : List S86) (a0_12 : Int) (a0_13 a0_14 : Bool) (size : Int) : typecaselaw18_SpanClasses.f 40 a0_0 a0_1 a0_2 a0_3 a0_4 a0_5 a0_6 a0_7 a0_8 a0_9 a0_10 l0_11 a0_12 a0_13 a0_14 size = some true := by
  unfold typecaselaw18_SpanClasses.f
  rw [awake_true 17]
  simp only [Option.bind_some]
  rw [if_pos trivial]
  split
  · rfl
  · rw [next_prog 18, next_ref 18, cls_prog 18, cls_ref 38]
    simp only [Option.bind_some]
    rw [ints_same _ (cls_len _ _ _ _ _ _ _ _).2 36]
    simp

end Go.Proofs.Ytbpihhggeakhoaa.PTwo
