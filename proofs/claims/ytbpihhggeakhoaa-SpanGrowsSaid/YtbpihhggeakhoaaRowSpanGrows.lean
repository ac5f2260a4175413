/- SpanGrows holds of every item, size and two distances: whatever the input, the call returns true, and the input reads as it did. No condition beyond the given row. -/
import Derived.Test.YtbpihhggeakhoaaRows
import Derived.Test.YtbpihhggeakhoaaOpens
import Derived.Test.YtbpihhggeakhoaaSpanGrowsPure
import Derived.WalkKit
import Derived.ProofKit
import Derived.OpenShut
import Derived.ShutString
import Derived.ChangeOld
import Derived.Below
import Derived.SizedLaws
namespace Go.Proofs.Ytbpihhggeakhoaa.PAll
open Go.ChangeShapes Go.WideShapes Go.ChangeAt Go.RowKit Go.Proofs.YtbpihhggeakhoaaW.PrintWords Go.Proofs.Ytbpihhggeakhoaa.Open
open Go.ChangeMaps (open_string shut_string)
set_option linter.unusedVariables false
namespace RowSpanGrows
theorem own : ownKnob Try.prog.godebug = none := by kernel_rfl
theorem laidOut : laidOutB Try.prog = true := by kernel_rfl
/-- What is known of a struct of type 23 that is read. -/
def wf23 (x : S23) : Prop := (fun n : Int => (Lit.int .i64 n).wf = true) (x.f0) ∧ (fun n : Int => (Lit.int .i64 n).wf = true) (x.f1) ∧ (fun n : Int => (Lit.int .i64 n).wf = true) (x.f2) ∧ (fun n : Int => (Lit.int .i64 n).wf = true) (x.f3) ∧ (fun n : Int => (Lit.int .i32 n).wf = true) (x.f4)
theorem op23 : Opens Try.prog 23 k23 wf23 :=
  opens_iso (opens_struct (ts := [3, 3, 3, 3, 21]) Try.underlying23 rfl (by kernel_rfl) (by kernel_rfl) (opensF_cons (opens_int Try.underlying3) (opensF_cons (opens_int Try.underlying3) (opensF_cons (opens_int Try.underlying3) (opensF_cons (opens_int Try.underlying3) (opensF_one (opens_int Try.underlying21))))))) (fun x : S23 => (x.f0, x.f1, x.f2, x.f3, x.f4)) (fun y => ⟨y.1, y.2.1, y.2.2.1, y.2.2.2.1, y.2.2.2.2⟩) (fun _ => rfl)
/-- What is known of a struct of type 86 that is read. -/
def wf86 (x : S86) : Prop := (fun n : Int => (Lit.int .i64 n).wf = true) (x.f0) ∧ (fun n : Int => (Lit.int .i64 n).wf = true) (x.f1) ∧ (fun n : Int => (Lit.int .i64 n).wf = true) (x.f2) ∧ (fun n : Int => (Lit.int .u32 n).wf = true) (x.f3) ∧ (fun s : ByteArray => s.size ≤ 9223372036854775807) (x.f4)
theorem op86 : Opens Try.prog 86 k86 wf86 :=
  opens_iso (opens_struct (ts := [3, 3, 3, 25, 9]) Try.underlying86 rfl (by kernel_rfl) (by kernel_rfl) (opensF_cons (opens_int Try.underlying3) (opensF_cons (opens_int Try.underlying3) (opensF_cons (opens_int Try.underlying3) (opensF_cons (opens_int Try.underlying25) (opensF_one (opens_string Try.underlying9))))))) (fun x : S86 => (x.f0, x.f1, x.f2, x.f3, x.f4)) (fun y => ⟨y.1, y.2.1, y.2.2.1, y.2.2.2.1, y.2.2.2.2⟩) (fun _ => rfl)
/-- What is known of a struct of type 27 that is read. -/
def wf27 (x : S27) : Prop := (fun n : Int => (Lit.int .i64 n).wf = true) (x.f0) ∧ (fun n : Int => (Lit.int .i64 n).wf = true) (x.f1) ∧ (fun n : Int => (Lit.int .i64 n).wf = true) (x.f2) ∧ (fun s : ByteArray => s.size ≤ 9223372036854775807) (x.f3) ∧ wf23 (x.f4) ∧ (fun s : ByteArray => s.size ≤ 9223372036854775807) (x.f5) ∧ (fun n : Int => (Lit.int .i64 n).wf = true) (x.f6) ∧ (fun l : List S86 => (∀ a ∈ l, wf86 a) ∧ l.length ≤ 9223372036854775807) (x.f7) ∧ (fun n : Int => (Lit.int .u32 n).wf = true) (x.f8) ∧ (fun _ : Bool => True) (x.f9) ∧ (fun _ : Bool => True) (x.f10)
theorem op27 : Opens Try.prog 27 k27 wf27 :=
  opens_iso (opens_struct (ts := [3, 3, 3, 9, 23, 9, 3, 24, 25, 4, 4]) Try.underlying27 rfl (by kernel_rfl) (by kernel_rfl) (opensF_cons (opens_int Try.underlying3) (opensF_cons (opens_int Try.underlying3) (opensF_cons (opens_int Try.underlying3) (opensF_cons (opens_string Try.underlying9) (opensF_cons op23 (opensF_cons (opens_string Try.underlying9) (opensF_cons (opens_int Try.underlying3) (opensF_cons (opens_slice Try.underlying24 (by kernel_rfl) op86) (opensF_cons (opens_int Try.underlying25) (opensF_cons (opens_bool Try.underlying4) (opensF_one (opens_bool Try.underlying4))))))))))))) (fun x : S27 => (x.f0, x.f1, x.f2, x.f3, x.f4, x.f5, x.f6, x.f7, x.f8, x.f9, x.f10)) (fun y => ⟨y.1, y.2.1, y.2.2.1, y.2.2.2.1, y.2.2.2.2.1, y.2.2.2.2.2.1, y.2.2.2.2.2.2.1, y.2.2.2.2.2.2.2.1, y.2.2.2.2.2.2.2.2.1, y.2.2.2.2.2.2.2.2.2.1, y.2.2.2.2.2.2.2.2.2.2⟩) (fun _ => rfl)
set_option maxRecDepth 100000 in
theorem lifted (os : Os) (started : os.Started) (H : Type) (enc : TypeId × Value → H) :
    ReturnsInHanded {} Try.checked os 5 .any (Rows.spanGrowsSpec.pre6 enc Try.prog Try.f5 Rows.spanGrowsRow.domain false) (Rows.spanGrowsSpec.post enc Try.prog Try.f5 false true false false) := by
  refine returnsInHanded_of_change_sized (C := Try.checked) own started (by kernel_rfl) Try.func5
    (ChangeSpec.witness6 (enc := enc) (C := Try.checked) false ⟨#[], #[.agg #[.int .i64 0, .int .i64 0, .int .i64 0, .string ByteArray.empty, .int .i64 0, .int .i64 0, .int .i64 0, .int .i64 0, .int .i32 0, .string ByteArray.empty, .int .i64 0, .slice none 0 0, .int .u32 0, .bool false, .bool false], .int .i64 0, .int .i32 0, .int .i32 0], []⟩ 8 (by kernel_rfl) (by kernel_rfl) (by kernel_rfl) (by kernel_rfl)) ?_
  intro W base args ds gs before hval0 hW hcnd hsz0 _
  have hval : ∀ (j : Nat) t v, Try.f5.params[j]? = some t → args[j]? = some v → Value.okWide Try.prog W .any base t v := hval0
  have hW' := hW
  obtain ⟨p, q, hA0, hV, rfl, hfz, hnd⟩ := hW
  have hA : DataW.TrodAll enc Try.prog W 0 (fun _ => true) true Try.f5.params.toList args.toList ds p := hA0
  rw [Try.params5] at hA hval
  obtain ⟨v0, vs0, d0, ds0, p0, q0, hargs, rfl, rfl, h0, r0⟩ := trodAll_cons hA
  obtain ⟨v1, vs1, d1, ds1, p1, q1, rfl, rfl, rfl, h1, r1⟩ := trodAll_cons r0
  obtain ⟨v2, vs2, d2, ds2, p2, q2, rfl, rfl, rfl, h2, r2⟩ := trodAll_cons r1
  obtain ⟨v3, vs3, d3, ds3, p3, q3, rfl, rfl, rfl, h3, r3⟩ := trodAll_cons r2
  obtain ⟨rfl, rfl, rfl⟩ := trodAll_nil r3
  obtain rfl : args = #[v0, v1, v2, v3] := by cases args; simp_all
  obtain ⟨rfl, rfl⟩ := trodVars_none hV
  have k0 := h0
  have lt0 : ∀ x ∈ p0, x.block < W.heap.size := by obtain ⟨m, hm⟩ := k0; exact DataW.trod_lt m _ _ _ hm
  obtain ⟨x0, cs0, rfl, K0, w0⟩ := arg_struct op27 Try.underlying27 (hval 0 27 v0 rfl rfl) h0
  obtain ⟨A0_11, c0_11, rfl, l0_11, g0_11⟩ := k27_open K0
  have k1 := h1
  have lt1 : ∀ x ∈ p1, x.block < W.heap.size := by obtain ⟨m, hm⟩ := k1; exact DataW.trod_lt m _ _ _ hm
  obtain ⟨x1, rfl, rfl, rfl, w1⟩ := open_int Try.underlying3 (hval 1 3 v1 rfl rfl) h1
  have b1 := wf_i64 w1
  have k2 := h2
  have lt2 : ∀ x ∈ p2, x.block < W.heap.size := by obtain ⟨m, hm⟩ := k2; exact DataW.trod_lt m _ _ _ hm
  obtain ⟨x2, rfl, rfl, rfl, w2⟩ := open_int Try.underlying21 (hval 2 21 v2 rfl rfl) h2
  have b2 := wf_i32 w2
  have k3 := h3
  have lt3 : ∀ x ∈ p3, x.block < W.heap.size := by obtain ⟨m, hm⟩ := k3; exact DataW.trod_lt m _ _ _ hm
  obtain ⟨x3, rfl, rfl, rfl, w3⟩ := open_int Try.underlying21 (hval 3 21 v3 rfl rfl) h3
  have b3 := wf_i32 w3
  clear hA0 hval0 hsz0
  refine (typecaselaw18_SpanGrows.calls 40 (x0.f0) (x0.f1) (x0.f2) (x0.f3) (x0.f4.f0) (x0.f4.f1) (x0.f4.f2) (x0.f4.f3) (x0.f4.f4) (x0.f5) (x0.f6) A0_11 c0_11 (x0.f7) (x0.f8) (x0.f9) (x0.f10) x1 x2 x3 true W g0_11 l0_11 (SpanGrows (x0.f0) (x0.f1) (x0.f2) (x0.f3) (x0.f4.f0) (x0.f4.f1) (x0.f4.f2) (x0.f4.f3) (x0.f4.f4) (x0.f5) (x0.f6) (x0.f7) (x0.f8) (x0.f9) (x0.f10) x1 x2 x3 b2.1 b2.2 b3.1 b3.2)).mono fun e W' ⟨he, bel⟩ => ?_
  subst he
  exact ⟨_, rfl, _, _, _, [], _, [], hW', trodAll_mk1 (shut_bool Try.underlying4 _), (trodAll_cons_mk (Below.trod laidOut (by kernel_rfl) (of_decide_eq_true (by kernel_rfl)) k0 bel lt0) (trodAll_cons_mk (Below.trod laidOut (by kernel_rfl) (of_decide_eq_true (by kernel_rfl)) k1 bel lt1) (trodAll_cons_mk (Below.trod laidOut (by kernel_rfl) (of_decide_eq_true (by kernel_rfl)) k2 bel lt2) (trodAll_cons_mk (Below.trod laidOut (by kernel_rfl) (of_decide_eq_true (by kernel_rfl)) k3 bel lt3) trodAll_mk0)))), rfl, bel.frame _, fun h => by cases h⟩
theorem over : Rows.spanGrowsRow.holds Try.pinned (OpenSpec.ofChange Rows.spanGrowsSpec) :=
  OpenClaim.holds_of_wide 5 Try.f5 rfl rfl rfl rfl rfl rfl rfl ⟨rfl, rfl, rfl, rfl, rfl⟩ rfl rfl rfl rfl rfl (by kernel_rfl) Try.func5 (by kernel_rfl)
    (of_decide_eq_true (by kernel_rfl)) (by unfold Func.isWrapper; first | (rw [if_pos (by decide +kernel)]; kernel_rfl) | (rw [if_neg (by decide +kernel)]; exact ⟨rfl, rfl⟩))
    (fun os started H enc _ => lifted os started H enc)
end RowSpanGrows
end Go.Proofs.Ytbpihhggeakhoaa.PAll
namespace Go.Proofs.Ytbpihhggeakhoaa
theorem spanGrows_holds : Rows.SpanGrowsSaid := PAll.RowSpanGrows.over
#print axioms spanGrows_holds
end Go.Proofs.Ytbpihhggeakhoaa
