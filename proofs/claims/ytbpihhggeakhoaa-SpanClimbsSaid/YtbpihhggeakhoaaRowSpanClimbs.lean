/- SpanClimbs holds of every item: whatever the input, the call returns true, and the input reads as it did. No condition beyond the given row. -/
import Derived.Test.YtbpihhggeakhoaaRows
import Derived.Test.YtbpihhggeakhoaaOpens
import Derived.Test.YtbpihhggeakhoaaPTwoSpanClimbsPure
import Derived.WalkKit
import Derived.ProofKit
import Derived.OpenShut
import Derived.ShutString
import Derived.ChangeOld
import Derived.Below
import Derived.SizedLaws
namespace Go.Proofs.Ytbpihhggeakhoaa.PTwo
open Go.ChangeShapes Go.WideShapes Go.ChangeAt Go.RowKit Go.Proofs.YtbpihhggeakhoaaW.PrintWords Go.Proofs.Ytbpihhggeakhoaa.Open
open Go.ChangeMaps (open_string shut_string)
set_option linter.unusedVariables false
namespace RowSpanClimbs
theorem own : ownKnob Try.prog.godebug = none := by kernel_rfl
theorem laidOut : laidOutB Try.prog = true := by kernel_rfl
/-- What is known of a struct of type 23 that is read. -/
def wf23 (x : S23) : Prop := (fun n : Int => (Lit.int .i64 n).wf = true) (x.f0) ∧ (fun n : Int => (Lit.int .i64 n).wf = true) (x.f1) ∧ (fun n : Int => (Lit.int .i64 n).wf = true) (x.f2) ∧ (fun n : Int => (Lit.int .i64 n).wf = true) (x.f3) ∧ (fun n : Int => (Lit.int .i32 n).wf = true) (x.f4)
theorem op23 : Opens Try.prog 23 k23 wf23 :=
  opens_iso (opens_struct (ts := [3, 3, 3, 3, 21]) Try.underlying23 rfl (by kernel_rfl) (by kernel_rfl) (opensF_cons (opens_int Try.underlying3) (opensF_cons (opens_int Try.underlying3) (opensF_cons (opens_int Try.underlying3) (opensF_cons (opens_int Try.underlying3) (opensF_one (opens_int Try.underlying21))))))) (fun x : S23 => (x.f0, x.f1, x.f2, x.f3, x.f4)) (fun y => ⟨y.1, y.2.1, y.2.2.1, y.2.2.2.1, y.2.2.2.2⟩) (fun _ => rfl)
/-- What is known of a struct of type 86 that is read. -/
def wf86 (x : S86) : Prop := (fun n : Int => (Lit.int .i64 n).wf = true) (x.f0) ∧ (fun n : Int => (Lit.int .i64 n).wf = true) (x.f1) ∧ (fun n : Int => (Lit.int .i64 n).wf = true) (x.f2) ∧ (fun n : Int => (Lit.int .u32 n).wf = true) (x.f3) ∧ (fun s : ByteArray => s.size ≤ 9223372036854775807) (x.f4)
theorem op86 : Opens Try.prog 86 k86 wf86 :=
  opens_iso (opens_struct (ts := [3, 3, 3, 25, 9]) Try.underlying86 rfl (by kernel_rfl) (by kernel_rfl) (opensF_cons (opens_int Try.underlying3) (opensF_cons (opens_int Try.underlying3) (opensF_cons (opens_int Try.underlying3) (opensF_cons (opens_int Try.underlying25) (opensF_one (opens_string Try.underlying9))))))) (fun x : S86 => (x.f0, x.f1, x.f2, x.f3, x.f4)) (fun y => ⟨y.1, y.2.1, y.2.2.1, y.2.2.2.1, y.2.2.2.2⟩) (fun _ => rfl)
/-- What is known of a struct of type 27 that is read. -/
def wf27 (x : S27) : Prop := (fun n : Int => (Lit.int .i64 n).wf = true) (x.f0) ∧ (fun n : Int => (Lit.int .i64 n).wf = true) (x.f1) ∧ (fun n : Int => (Lit.int .i64 n).wf = true) (x.f2) ∧ (fun s : ByteArray => s.size ≤ 9223372036854775807) (x.f3) ∧ wf23 (x.f4) ∧ (fun s : ByteArray => s.size ≤ 9223372036854775807) (x.f5) ∧ (fun n : Int => (Lit.int .i64 n).wf = true) (x.f6) ∧ (fun l : List S86 => (∀ a ∈ l, wf86 a) ∧ l.length ≤ 9223372036854775807) (x.f7) ∧ (fun n : Int => (Lit.int .u32 n).wf = true) (x.f8) ∧ (fun _ : Bool => True) (x.f9) ∧ (fun _ : Bool => True) (x.f10)
theorem op27 : Opens Try.prog 27 k27 wf27 :=
  opens_iso (opens_struct (ts := [3, 3, 3, 9, 23, 9, 3, 24, 25, 4, 4]) Try.underlying27 rfl (by kernel_rfl) (by kernel_rfl) (opensF_cons (opens_int Try.underlying3) (opensF_cons (opens_int Try.underlying3) (opensF_cons (opens_int Try.underlying3) (opensF_cons (opens_string Try.underlying9) (opensF_cons op23 (opensF_cons (opens_string Try.underlying9) (opensF_cons (opens_int Try.underlying3) (opensF_cons (opens_slice Try.underlying24 (by kernel_rfl) op86) (opensF_cons (opens_int Try.underlying25) (opensF_cons (opens_bool Try.underlying4) (opensF_one (opens_bool Try.underlying4))))))))))))) (fun x : S27 => (x.f0, x.f1, x.f2, x.f3, x.f4, x.f5, x.f6, x.f7, x.f8, x.f9, x.f10)) (fun y => ⟨y.1, y.2.1, y.2.2.1, y.2.2.2.1, y.2.2.2.2.1, y.2.2.2.2.2.1, y.2.2.2.2.2.2.1, y.2.2.2.2.2.2.2.1, y.2.2.2.2.2.2.2.2.1, y.2.2.2.2.2.2.2.2.2.1, y.2.2.2.2.2.2.2.2.2.2⟩) (fun _ => rfl)
set_option maxRecDepth 100000 in
theorem lifted (os : Os) (started : os.Started) (H : Type) (enc : TypeId × Value → H) :
    ReturnsInHanded {} Try.checked os 6 .any (Rows.spanClimbsSpec.pre6 enc Try.prog Try.f6 Rows.spanClimbsRow.domain false) (Rows.spanClimbsSpec.post enc Try.prog Try.f6 false true false false) := by
  refine returnsInHanded_of_change_sized (C := Try.checked) own started (by kernel_rfl) Try.func6
    (ChangeSpec.witness6 (enc := enc) (C := Try.checked) false ⟨#[], #[.agg #[.int .i64 0, .int .i64 0, .int .i64 0, .string ByteArray.empty, .int .i64 0, .int .i64 0, .int .i64 0, .int .i64 0, .int .i32 0, .string ByteArray.empty, .int .i64 0, .slice none 0 0, .int .u32 0, .bool false, .bool false]], []⟩ 8 (by kernel_rfl) (by kernel_rfl) (by kernel_rfl) (by kernel_rfl)) ?_
  intro W base args ds gs before hval0 hW hcnd hsz0 _
  have hval : ∀ (j : Nat) t v, Try.f6.params[j]? = some t → args[j]? = some v → Value.okWide Try.prog W .any base t v := hval0
  have hW' := hW
  obtain ⟨p, q, hA0, hV, rfl, hfz, hnd⟩ := hW
  have hA : DataW.TrodAll enc Try.prog W 0 (fun _ => true) true Try.f6.params.toList args.toList ds p := hA0
  rw [Try.params6] at hA hval
  obtain ⟨v0, vs0, d0, ds0, p0, q0, hargs, rfl, rfl, h0, r0⟩ := trodAll_cons hA
  obtain ⟨rfl, rfl, rfl⟩ := trodAll_nil r0
  obtain rfl : args = #[v0] := by cases args; simp_all
  obtain ⟨rfl, rfl⟩ := trodVars_none hV
  have k0 := h0
  have lt0 : ∀ x ∈ p0, x.block < W.heap.size := by obtain ⟨m, hm⟩ := k0; exact DataW.trod_lt m _ _ _ hm
  obtain ⟨x0, cs0, rfl, K0, w0⟩ := arg_struct op27 Try.underlying27 (hval 0 27 v0 rfl rfl) h0
  obtain ⟨A0_11, c0_11, rfl, l0_11, g0_11⟩ := k27_open K0
  clear hA0 hval0 hsz0
  refine (typecaselaw18_SpanClimbs.calls 40 (x0.f0) (x0.f1) (x0.f2) (x0.f3) (x0.f4.f0) (x0.f4.f1) (x0.f4.f2) (x0.f4.f3) (x0.f4.f4) (x0.f5) (x0.f6) A0_11 c0_11 (x0.f7) (x0.f8) (x0.f9) (x0.f10) true W g0_11 l0_11 (SpanClimbs (x0.f0) (x0.f1) (x0.f2) (x0.f3) (x0.f4.f0) (x0.f4.f1) (x0.f4.f2) (x0.f4.f3) (x0.f4.f4) (x0.f5) (x0.f6) (x0.f7) (x0.f8) (x0.f9) (x0.f10))).mono fun e W' ⟨he, bel⟩ => ?_
  subst he
  exact ⟨_, rfl, _, _, _, [], _, [], hW', trodAll_mk1 (shut_bool Try.underlying4 _), (trodAll_cons_mk (Below.trod laidOut (by kernel_rfl) (of_decide_eq_true (by kernel_rfl)) k0 bel lt0) trodAll_mk0), rfl, bel.frame _, fun h => by cases h⟩
theorem over : Rows.spanClimbsRow.holds Try.pinned (OpenSpec.ofChange Rows.spanClimbsSpec) :=
  OpenClaim.holds_of_wide 6 Try.f6 rfl rfl rfl rfl rfl rfl rfl ⟨rfl, rfl, rfl, rfl, rfl⟩ rfl rfl rfl rfl rfl (by kernel_rfl) Try.func6 (by kernel_rfl)
    (of_decide_eq_true (by kernel_rfl)) (by unfold Func.isWrapper; first | (rw [if_pos (by decide +kernel)]; kernel_rfl) | (rw [if_neg (by decide +kernel)]; exact ⟨rfl, rfl⟩))
    (fun os started H enc _ => lifted os started H enc)
end RowSpanClimbs
end Go.Proofs.Ytbpihhggeakhoaa.PTwo
namespace Go.Proofs.Ytbpihhggeakhoaa
theorem spanClimbs_holds : Rows.SpanClimbsSaid := PTwo.RowSpanClimbs.over
#print axioms spanClimbs_holds
end Go.Proofs.Ytbpihhggeakhoaa
