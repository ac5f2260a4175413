/- EvalNodes holds of all nodes, symbols and places. -/
import Derived.Test.YtgholjhcbhcicaaDoorRows
import Derived.Test.YtgholjhcbhcicaaDoorOpens
import Derived.Test.YtgholjhcbhcicaaDoorNodes
import Derived.Test.YtgholjhcbhcicaaDoorCards
import Derived.Test.YtgholjhcbhcicaaDoorTie
import Derived.WalkKit
import Derived.ProofKit
import Derived.OpenShut
import Derived.ShutString
import Derived.ChangeOld
import Derived.Below
import Derived.SizedLaws
namespace Go.Proofs.YtgholjhcbhcicaaDoor.PAll
open Go.ChangeShapes Go.WideShapes Go.ChangeAt Go.RowKit Go.Proofs.YtgholjhcbhcicaaDoorW.PrintWords Go.Proofs.YtgholjhcbhcicaaDoor.Open
open Go.ChangeMaps (open_string shut_string)
set_option linter.unusedVariables false
namespace RowEvalNodes
theorem own : ownKnob Tryd.prog.godebug = none := by kernel_rfl
theorem laidOut : laidOutB Tryd.prog = true := by kernel_rfl
/-- What is known of a struct of type 47 that is read. -/
def wf47 (x : S47) : Prop := (fun n : Int => (Lit.int .i64 n).wf = true) (x.f0) ∧ (fun n : Int => (Lit.int .i64 n).wf = true) (x.f1) ∧ (fun n : Int => (Lit.int .i64 n).wf = true) (x.f2) ∧ (fun n : Int => (Lit.int .u32 n).wf = true) (x.f3) ∧ (fun s : ByteArray => s.size ≤ 9223372036854775807) (x.f4)
theorem op47 : Opens Tryd.prog 47 k47 wf47 :=
  opens_iso (opens_struct (ts := [3, 3, 3, 24, 9]) Tryd.underlying47 rfl (by kernel_rfl) (by kernel_rfl) (opensF_cons (opens_int Tryd.underlying3) (opensF_cons (opens_int Tryd.underlying3) (opensF_cons (opens_int Tryd.underlying3) (opensF_cons (opens_int Tryd.underlying24) (opensF_one (opens_string Tryd.underlying9))))))) (fun x : S47 => (x.f0, x.f1, x.f2, x.f3, x.f4)) (fun y => ⟨y.1, y.2.1, y.2.2.1, y.2.2.2.1, y.2.2.2.2⟩) (fun _ => rfl)
/-- What is known of a struct of type 49 that is read. -/
def wf49 (x : S49) : Prop := (fun s : ByteArray => s.size ≤ 9223372036854775807) (x.f0) ∧ (fun n : Int => (Lit.int .u32 n).wf = true) (x.f1) ∧ (fun n : Int => (Lit.int .i64 n).wf = true) (x.f2)
theorem op49 : Opens Tryd.prog 49 k49 wf49 :=
  opens_iso (opens_struct (ts := [9, 24, 3]) Tryd.underlying49 rfl (by kernel_rfl) (by kernel_rfl) (opensF_cons (opens_string Tryd.underlying9) (opensF_cons (opens_int Tryd.underlying24) (opensF_one (opens_int Tryd.underlying3))))) (fun x : S49 => (x.f0, x.f1, x.f2)) (fun y => ⟨y.1, y.2.1, y.2.2⟩) (fun _ => rfl)
theorem et : Tryd.prog.globalNamed "errors.errorType" = some 0 := by kernel_rfl
theorem rt : (Tryd.prog.cutTypes.find? (·.1 == "internal/reflectlite.rtype")).map (·.2) = some 133 := by kernel_rfl
theorem oneRow : ((List.range Tryd.prog.types.size).filter fun t => Tryd.prog.rowNamed t [101, 114, 114, 111, 114]) = [40] := by kernel_rfl
/-- What the condition gives a walk: the variable's one cell. -/
theorem handle_of_laid {W : World} (h : laidMetH Tryd.prog [("errors.errorType", Rows.laid_errors_errorType)] W) : W.cell? ⟨0, 0, none⟩ = some (.iface 133 (.agg #[.pointer (some ⟨1, 40, none⟩)])) := by
  have h' : laidMet Tryd.prog [] W ∧ handlesMet Tryd.prog [("errors.errorType", Rows.laid_errors_errorType)] W := h
  obtain ⟨name, u, ty, e1, e2, e3, e4, e5⟩ := h'.2 _ (List.mem_singleton.2 rfl)
  have en : name = [101, 114, 114, 111, 114] := (Option.some.inj e1).symm
  subst en
  obtain rfl := Option.some.inj (rt.symm.trans e2)
  have hm : ty ∈ (List.range Tryd.prog.types.size).filter fun t => Tryd.prog.rowNamed t [101, 114, 114, 111, 114] := List.mem_filter.2 ⟨List.mem_range.2 e3, e4⟩
  rw [oneRow] at hm
  obtain rfl := List.mem_singleton.1 hm
  have hh : typeHandle Tryd.prog 40 = .pointer (some ⟨1, 40, none⟩) := by kernel_rfl
  rw [hh] at e5
  simpa using World.var?_cell et e5 0
/-- A world that meets the condition. -/
noncomputable def laidWorld (os : Os) : World :=
  let w0 := World.holding Tryd.prog os ⟨#[], #[], []⟩
  { w0 with heap := w0.heap.modify 0 fun
      | .cells _ t frozen => .cells #[.iface 133 (.agg #[.pointer (some ⟨1, 40, none⟩)])] t frozen
      | o => o }
theorem laidWorld_met (os : Os) (args : Array Value) : laidMetH Tryd.prog [("errors.errorType", Rows.laid_errors_errorType)] ((laidWorld os).forCall (fun _ _ => 0) ⟨#[], args, []⟩).memory :=
  laidMetH_of_parts (laidMet_nil _ _) (by kernel_rfl)
set_option maxRecDepth 100000 in
theorem lifted (os : Os) (started : os.Started) (H : Type) (enc : TypeId × Value → H) :
    ReturnsInHanded {} Tryd.checked os 3 .any (fun w args => (Rows.evalNodesSpec.pre enc Tryd.prog Tryd.f3 [] false w args ∧ laidMetH Tryd.prog [("errors.errorType", Rows.laid_errors_errorType)] w) ∧ sizedMet enc Tryd.prog Tryd.f3 (OpenSpec.ofChange Rows.evalNodesSpec) false w args) (Rows.evalNodesSpec.post enc Tryd.prog Tryd.f3 false true false false) := by
  refine returnsInHanded_of_change_and (C := Tryd.checked) (X := fun w _ => laidMetH Tryd.prog [("errors.errorType", Rows.laid_errors_errorType)] w) (fun _ _ _ hh h => h.of_heap hh) own started (by kernel_rfl) Tryd.func3
    (ChangeSpec.witness_at (enc := enc) (C := Tryd.checked) (os := os) (X := fun w _ => laidMetH Tryd.prog [("errors.errorType", Rows.laid_errors_errorType)] w) false (laidWorld os) #[.slice none 0 0, .slice none 0 0, .int .u32 0, .bool false] 8 rfl (by kernel_rfl) (by kernel_rfl) (by kernel_rfl) (by kernel_rfl) (by kernel_rfl) (laidWorld_met os _)) ?_
  intro W base args ds gs before hval0 hW _ hsz0 hLaid _
  have hg := handle_of_laid hLaid
  have hval : ∀ (j : Nat) t v, Tryd.f3.params[j]? = some t → args[j]? = some v → Value.okWide Tryd.prog W .any base t v := hval0
  have hW' := hW
  obtain ⟨p, q, hA0, hV, rfl, hfz, hnd⟩ := hW
  have hA : DataW.TrodAll enc Tryd.prog W 0 (fun _ => true) true Tryd.f3.params.toList args.toList ds p := hA0
  rw [Tryd.params3] at hA hval
  obtain ⟨v0, vs0, d0, ds0, p0, q0, hargs, rfl, rfl, h0, r0⟩ := trodAll_cons hA
  obtain ⟨v1, vs1, d1, ds1, p1, q1, rfl, rfl, rfl, h1, r1⟩ := trodAll_cons r0
  obtain ⟨v2, vs2, d2, ds2, p2, q2, rfl, rfl, rfl, h2, r2⟩ := trodAll_cons r1
  obtain ⟨v3, vs3, d3, ds3, p3, q3, rfl, rfl, rfl, h3, r3⟩ := trodAll_cons r2
  obtain ⟨rfl, rfl, rfl⟩ := trodAll_nil r3
  obtain rfl : args = #[v0, v1, v2, v3] := by cases args; simp_all
  obtain ⟨rfl, rfl⟩ := trodVars_none hV
  have k0 := h0
  have lt0 : ∀ x ∈ p0, x.block < W.heap.size := by obtain ⟨m, hm⟩ := k0; exact DataW.trod_lt m _ _ _ hm
  obtain ⟨a0, len0, cap0, rfl⟩ := okWide_slice Tryd.underlying22 (hval 0 22 v0 rfl rfl)
  obtain ⟨x0, K0, w0⟩ := arg_one (opens_slice Tryd.underlying22 (by kernel_rfl) op47) (fun cs h => by cases h) h0
  obtain ⟨A0, c0, hA0, l0, g0⟩ := K0
  injection (List.cons.inj hA0).1 with ea0 el0 ec0; subst ea0; subst el0; subst ec0
  have k1 := h1
  have lt1 : ∀ x ∈ p1, x.block < W.heap.size := by obtain ⟨m, hm⟩ := k1; exact DataW.trod_lt m _ _ _ hm
  obtain ⟨a1, len1, cap1, rfl⟩ := okWide_slice Tryd.underlying23 (hval 1 23 v1 rfl rfl)
  obtain ⟨x1, K1, w1⟩ := arg_one (opens_slice Tryd.underlying23 (by kernel_rfl) op49) (fun cs h => by cases h) h1
  obtain ⟨A1, c1, hA1, l1, g1⟩ := K1
  injection (List.cons.inj hA1).1 with ea1 el1 ec1; subst ea1; subst el1; subst ec1
  have k2 := h2
  have lt2 : ∀ x ∈ p2, x.block < W.heap.size := by obtain ⟨m, hm⟩ := k2; exact DataW.trod_lt m _ _ _ hm
  obtain ⟨x2, rfl, rfl, rfl, w2⟩ := open_int Tryd.underlying24 (hval 2 24 v2 rfl rfl) h2
  have b2 := wf_u32 w2
  have k3 := h3
  have lt3 : ∀ x ∈ p3, x.block < W.heap.size := by obtain ⟨m, hm⟩ := k3; exact DataW.trod_lt m _ _ _ hm
  obtain ⟨x3, rfl, rfl, rfl⟩ := open_bool Tryd.underlying4 (hval 3 4 v3 rfl rfl) h3
  clear hA0 hval0 hsz0
  refine (nodes_any _ _ _ _ x0 x1 x2 x3 W hg g0 g1 l0 l1 ⟨b2.1, by omega⟩ (fun n hn => by obtain ⟨_, _, _, h3, h4⟩ := w0.1 n hn; have h5 : 0 ≤ n.f3 ∧ n.f3 ≤ 4294967295 := (by simpa [Lit.wf, IntKind.min, IntKind.max, IntKind.signed, IntKind.bits] using h3); exact ⟨⟨h5.1, by omega⟩, h4⟩) (fun s hs => by obtain ⟨h4, h3, _⟩ := w1.1 s hs; have h5 : 0 ≤ s.f1 ∧ s.f1 ≤ 4294967295 := (by simpa [Lit.wf, IntKind.min, IntKind.max, IntKind.signed, IntKind.bits] using h3); exact ⟨⟨h5.1, by omega⟩, h4⟩)).mono fun e W' ⟨he, bel⟩ => ?_
  subst he
  exact ⟨_, rfl, _, _, _, [], _, [], hW', trodAll_mk1 (shut_bool Tryd.underlying4 _), (trodAll_cons_mk (Below.trod laidOut (by kernel_rfl) (of_decide_eq_true (by kernel_rfl)) k0 bel lt0) (trodAll_cons_mk (Below.trod laidOut (by kernel_rfl) (of_decide_eq_true (by kernel_rfl)) k1 bel lt1) (trodAll_cons_mk (Below.trod laidOut (by kernel_rfl) (of_decide_eq_true (by kernel_rfl)) k2 bel lt2) (trodAll_cons_mk (Below.trod laidOut (by kernel_rfl) (of_decide_eq_true (by kernel_rfl)) k3 bel lt3) trodAll_mk0)))), rfl, bel.frame _, fun h => by cases h⟩
theorem over : Rows.evalNodesRow.holds Tryd.pinned (OpenSpec.ofChange Rows.evalNodesSpec) :=
  OpenClaim.holds_of_wide 3 Tryd.f3 rfl rfl rfl rfl rfl rfl rfl ⟨rfl, rfl, rfl, rfl, rfl⟩ rfl rfl rfl rfl rfl (by kernel_rfl) Tryd.func3 (by kernel_rfl)
    (of_decide_eq_true (by kernel_rfl)) (by unfold Func.isWrapper; first | (rw [if_pos (by decide +kernel)]; kernel_rfl) | (rw [if_neg (by decide +kernel)]; exact ⟨rfl, rfl⟩))
    (fun os started H enc _ => lifted os started H enc)
end RowEvalNodes
end Go.Proofs.YtgholjhcbhcicaaDoor.PAll
namespace Go.Proofs.YtgholjhcbhcicaaDoor
theorem evalNodes_holds : Rows.EvalNodesSaid := PAll.RowEvalNodes.over
#print axioms evalNodes_holds
end Go.Proofs.YtgholjhcbhcicaaDoor
namespace Go.Proofs.YtgholjhcbhcicaaDoor
open Go
theorem evalNodesCard_holds : Rows.EvalNodesCardSaid :=
  Claim7.holds_tied_plain_at .later [] [.handle] true (true, "6fb65d6ab60939594fdf4502d61847770ac1c2e69d09e74d6147487ead3c8ffc") true
    evalNodes_holds (fun _ h => by cases h) (by kernel_rfl) (fun _ h => by cases h) evalNodes_row_tie rfl ⟨rfl, rfl⟩ (by kernel_rfl) rfl
    (fun f fn hf hfn => by
      obtain rfl : f = 3 := Option.some.inj ((show Tryd.prog.funcNamed "typecase/typecaselaw12.EvalNodes" = some 3 by kernel_rfl).symm.trans hf) |>.symm
      obtain rfl : fn = Tryd.f3 := (Option.some.inj (Tryd.func3.symm.trans hfn)).symm
      exact ⟨by kernel_rfl, fun j t ht => by
        rw [Tryd.params3] at ht
        have h3 : t = 4 ∨ t = 22 ∨ t = 23 ∨ t = 24 := by
          rcases j with _ | _ | _ | _ | _
          all_goals simp at ht
          all_goals simp [← ht]
        rcases h3 with rfl | rfl | rfl | rfl
        · exact (show Tryd.prog.wantsStandIn 4 = false by kernel_rfl)
        · exact (show Tryd.prog.wantsStandIn 22 = false by kernel_rfl)
        · exact (show Tryd.prog.wantsStandIn 23 = false by kernel_rfl)
        · exact (show Tryd.prog.wantsStandIn 24 = false by kernel_rfl)⟩)
    (by kernel_rfl)
#print axioms evalNodesCard_holds
end Go.Proofs.YtgholjhcbhcicaaDoor
