/-
  NARROWER THAN 'FOR EVERY INPUT', by the rows' own cells (each row's printed sentence says how): EvalNodes: laid · EvalTexts: laid · EvalEarly: laid · EvalMoves: laid · EvalHalves: laid.
  DERIVED. THE GIVEN ROWS OF THIS SEAT. 5 by the template 'for every input the law returns true; each argument reads behind the call as it read before'; 0 by the template 'total and deterministic' (their statements: YtgholjhcbhcicaaDoorTotals.lean).
  GIVEN WITH THE SEED: the statements are not yours to turn. If you find one false, say at which input.
  Laid BY PROGRAM, IN A SANDBOX (cutbox-rows.mjs): the forced cells as the released guide's own fill.sh prints them over the translation 50d85db1ed0b8c25… (all of the seat's roots in one cut). By AI agents, Wed Nov 11 2026. No macro, syntax, notation, axiom, sorry.
-/
import Derived.Test.YtgholjhcbhcicaaDoorChecked
import GoSem.Claim
import GoSem.ClaimJoined
import GoSem.ClaimMapViews
import Derived.JoinedTies
import Derived.KernelRfl
namespace Go.Proofs.YtgholjhcbhcicaaDoor
/- THE CELL 'sum', in the pinned program and in every row, IS THE sha256 OF THE DUMP (.gsa) THAT YtgholjhcbhcicaaDoorProg.lean LOADS. Nothing in Lean hashes anything: it is a label: what it is worth is what the hold of that sum in a sandbox is worth. -/
noncomputable def Tryd.pinned : Pinned := { name := "ytgholjhcbhcicaadoor", sum := "50d85db1ed0b8c25c650dc0848d1000c4fa2472fdc72c365507b44566eaa93e5", checked := Tryd.checked }
namespace Rows
def none {H : Type} : Left H := { results := [], args := [] }

/- WHAT THE LISTED PACKAGE-LEVEL VARIABLES READ AS WHEN THE CALL BEGINS. Each datum BY PROGRAM (the guide's laid-datum.mjs) off the statement by which the dump's own 'gosem.cut.vars' lays the variable. In a bare row this is a premise. The card (YtgholjhcbhcicaaDoorCards.lean) ties it to the program's text. -/
def laid_errors_errorType {H : Type} : DataW H := .iface "internal/reflectlite.rtype" (.agg [.ptr (.lit (.string [101, 114, 114, 111, 114]))])

/-- 'typecaselaw12.EvalNodes': WHATEVER THE INPUT: true; the input reads as it did. -/
def evalNodesSpec : ChangeSpec := { name := "evalNodes", fn := fun _ => fun
  | [d1, d2, d3, d4] => { results := [.lit (.bool true)], args := [d1, d2, d3, d4] }
  | _ => none }
def evalNodesRow : OpenClaim := { program := "ytgholjhcbhcicaadoor", sum := "50d85db1ed0b8c25c650dc0848d1000c4fa2472fdc72c365507b44566eaa93e5", func := "typecase/typecaselaw12.EvalNodes", spec := "evalNodes", inPlace := ["internal/reflectlite.ValueOf", "(internal/reflectlite.Value).Type", "(internal/reflectlite.Value).IsNil", "internal/reflectlite.TypeOf", "(internal/reflectlite.Value).Elem", "(internal/reflectlite.Value).Set"], unfollowed := true, recurses := true, named := ["errors.errorType"], apart := false, laid := [("errors.errorType", laid_errors_errorType)] }
def EvalNodesSaid : Prop := evalNodesRow.holds Tryd.pinned (OpenSpec.ofChange evalNodesSpec)

/-- ITS FALSE NEIGHBOUR: 'it returns false'. Refute it at one input. -/
def evalNodesWrong : ChangeSpec := { name := "evalNodes", fn := fun _ => fun
  | [d1, d2, d3, d4] => { results := [.lit (.bool false)], args := [d1, d2, d3, d4] }
  | _ => none }
def EvalNodesWrongFalsely : Prop := evalNodesRow.holds Tryd.pinned (OpenSpec.ofChange evalNodesWrong)

/-- 'typecaselaw12.EvalTexts': WHATEVER THE INPUT: true; the input reads as it did. -/
def evalTextsSpec : ChangeSpec := { name := "evalTexts", fn := fun _ => fun
  | [d1, d2, d3, d4] => { results := [.lit (.bool true)], args := [d1, d2, d3, d4] }
  | _ => none }
def evalTextsRow : OpenClaim := { program := "ytgholjhcbhcicaadoor", sum := "50d85db1ed0b8c25c650dc0848d1000c4fa2472fdc72c365507b44566eaa93e5", func := "typecase/typecaselaw12.EvalTexts", spec := "evalTexts", inPlace := ["internal/reflectlite.ValueOf", "(internal/reflectlite.Value).Type", "(internal/reflectlite.Value).IsNil", "internal/reflectlite.TypeOf", "(internal/reflectlite.Value).Elem", "(internal/reflectlite.Value).Set"], unfollowed := true, recurses := true, named := ["errors.errorType"], apart := false, laid := [("errors.errorType", laid_errors_errorType)] }
def EvalTextsSaid : Prop := evalTextsRow.holds Tryd.pinned (OpenSpec.ofChange evalTextsSpec)

/-- ITS FALSE NEIGHBOUR: 'it returns false'. Refute it at one input. -/
def evalTextsWrong : ChangeSpec := { name := "evalTexts", fn := fun _ => fun
  | [d1, d2, d3, d4] => { results := [.lit (.bool false)], args := [d1, d2, d3, d4] }
  | _ => none }
def EvalTextsWrongFalsely : Prop := evalTextsRow.holds Tryd.pinned (OpenSpec.ofChange evalTextsWrong)

/-- 'typecaselaw12.EvalEarly': WHATEVER THE INPUT: true; the input reads as it did. -/
def evalEarlySpec : ChangeSpec := { name := "evalEarly", fn := fun _ => fun
  | [d1, d2, d3, d4] => { results := [.lit (.bool true)], args := [d1, d2, d3, d4] }
  | _ => none }
def evalEarlyRow : OpenClaim := { program := "ytgholjhcbhcicaadoor", sum := "50d85db1ed0b8c25c650dc0848d1000c4fa2472fdc72c365507b44566eaa93e5", func := "typecase/typecaselaw12.EvalEarly", spec := "evalEarly", inPlace := ["internal/reflectlite.ValueOf", "(internal/reflectlite.Value).Type", "(internal/reflectlite.Value).IsNil", "internal/reflectlite.TypeOf", "(internal/reflectlite.Value).Elem", "(internal/reflectlite.Value).Set"], unfollowed := true, recurses := true, named := ["errors.errorType"], apart := false, laid := [("errors.errorType", laid_errors_errorType)] }
def EvalEarlySaid : Prop := evalEarlyRow.holds Tryd.pinned (OpenSpec.ofChange evalEarlySpec)

/-- ITS FALSE NEIGHBOUR: 'it returns false'. Refute it at one input. -/
def evalEarlyWrong : ChangeSpec := { name := "evalEarly", fn := fun _ => fun
  | [d1, d2, d3, d4] => { results := [.lit (.bool false)], args := [d1, d2, d3, d4] }
  | _ => none }
def EvalEarlyWrongFalsely : Prop := evalEarlyRow.holds Tryd.pinned (OpenSpec.ofChange evalEarlyWrong)

/-- 'typecaselaw12.EvalMoves': WHATEVER THE INPUT: true; the input reads as it did. -/
def evalMovesSpec : ChangeSpec := { name := "evalMoves", fn := fun _ => fun
  | [d1, d2, d3, d4] => { results := [.lit (.bool true)], args := [d1, d2, d3, d4] }
  | _ => none }
def evalMovesRow : OpenClaim := { program := "ytgholjhcbhcicaadoor", sum := "50d85db1ed0b8c25c650dc0848d1000c4fa2472fdc72c365507b44566eaa93e5", func := "typecase/typecaselaw12.EvalMoves", spec := "evalMoves", inPlace := ["internal/reflectlite.ValueOf", "(internal/reflectlite.Value).Type", "(internal/reflectlite.Value).IsNil", "internal/reflectlite.TypeOf", "(internal/reflectlite.Value).Elem", "(internal/reflectlite.Value).Set"], unfollowed := true, recurses := true, named := ["errors.errorType"], apart := false, laid := [("errors.errorType", laid_errors_errorType)] }
def EvalMovesSaid : Prop := evalMovesRow.holds Tryd.pinned (OpenSpec.ofChange evalMovesSpec)

/-- ITS FALSE NEIGHBOUR: 'it returns false'. Refute it at one input. -/
def evalMovesWrong : ChangeSpec := { name := "evalMoves", fn := fun _ => fun
  | [d1, d2, d3, d4] => { results := [.lit (.bool false)], args := [d1, d2, d3, d4] }
  | _ => none }
def EvalMovesWrongFalsely : Prop := evalMovesRow.holds Tryd.pinned (OpenSpec.ofChange evalMovesWrong)

/-- 'typecaselaw12.EvalHalves': WHATEVER THE INPUT: true; the input reads as it did. -/
def evalHalvesSpec : ChangeSpec := { name := "evalHalves", fn := fun _ => fun
  | [d] => { results := [.lit (.bool true)], args := [d] }
  | _ => none }
def evalHalvesRow : OpenClaim := { program := "ytgholjhcbhcicaadoor", sum := "50d85db1ed0b8c25c650dc0848d1000c4fa2472fdc72c365507b44566eaa93e5", func := "typecase/typecaselaw12.EvalHalves", spec := "evalHalves", inPlace := ["internal/reflectlite.ValueOf", "(internal/reflectlite.Value).Type", "(internal/reflectlite.Value).IsNil", "internal/reflectlite.TypeOf", "(internal/reflectlite.Value).Elem", "(internal/reflectlite.Value).Set"], unfollowed := true, recurses := true, named := ["errors.errorType"], apart := false, laid := [("errors.errorType", laid_errors_errorType)] }
def EvalHalvesSaid : Prop := evalHalvesRow.holds Tryd.pinned (OpenSpec.ofChange evalHalvesSpec)

/-- ITS FALSE NEIGHBOUR: 'it returns false'. Refute it at one input. -/
def evalHalvesWrong : ChangeSpec := { name := "evalHalves", fn := fun _ => fun
  | [d] => { results := [.lit (.bool false)], args := [d] }
  | _ => none }
def EvalHalvesWrongFalsely : Prop := evalHalvesRow.holds Tryd.pinned (OpenSpec.ofChange evalHalvesWrong)

/- THE SECOND FORM. 'bulk': how many values and letters a reading holds, each counted each time it is reached (what is shared counts as often as it is met; a slice's spare places count too). A statement '..UptoSaid' is the law's where the arguments, and the package variables that the reading takes, are together of bulk at most 1048576: NARROWER than '..Said'. Prove '..Said' where nothing that the law and all that it calls make is longer than what came in: it says more and counts as full. Else prove '..UptoSaid'. A law counts once. -/
mutual
def uptoBulk {H : Type} : DataW H → Nat
  | .lit (.string bytes) => bytes.length + 1
  | .lit _ => 1
  | .nil => 1
  | .ptr d => uptoBulk d + 1
  | .slice elems spare => uptoBulkAll elems + uptoBulkAll spare + 1
  | .agg parts => uptoBulkAll parts + 1
  | .iface _ d => uptoBulk d + 1
  | .map entries => uptoBulkEntries entries + 1
  | .held _ => 1
def uptoBulkAll {H : Type} : List (DataW H) → Nat
  | [] => 0
  | d :: r => uptoBulk d + uptoBulkAll r
def uptoBulkEntries {H : Type} : List (Lit × DataW H) → Nat
  | [] => 0
  | x :: r => uptoBulkEntry x + uptoBulkEntries r
def uptoBulkEntry {H : Type} : Lit × DataW H → Nat
  | (.string bytes, d) => bytes.length + uptoBulk d + 1
  | (_, d) => uptoBulk d + 1
 end
def uptoSmall : (H : Type) → List (DataW H) → Bool := fun _ ds => decide (uptoBulkAll ds ≤ 1048576)
def OpenSpec.upto (s : _root_.Go.ChangeSpec) : _root_.Go.OpenSpec := { _root_.Go.OpenSpec.ofChange s with cond := some uptoSmall }

/-- 'typecaselaw12.EvalNodes', WHERE WHAT IT READS IS OF BULK AT MOST 1048576: true; the input reads as it did. -/
def evalNodesUptoRow : OpenClaim := { program := "ytgholjhcbhcicaadoor", sum := "50d85db1ed0b8c25c650dc0848d1000c4fa2472fdc72c365507b44566eaa93e5", func := "typecase/typecaselaw12.EvalNodes", spec := "evalNodes", inPlace := ["internal/reflectlite.ValueOf", "(internal/reflectlite.Value).Type", "(internal/reflectlite.Value).IsNil", "internal/reflectlite.TypeOf", "(internal/reflectlite.Value).Elem", "(internal/reflectlite.Value).Set"], unfollowed := true, recurses := true, named := ["errors.errorType"], apart := false, laid := [("errors.errorType", laid_errors_errorType)], narrowed := true }
def EvalNodesUptoSaid : Prop := evalNodesUptoRow.holds Tryd.pinned (OpenSpec.upto evalNodesSpec)

/-- 'typecaselaw12.EvalTexts', WHERE WHAT IT READS IS OF BULK AT MOST 1048576: true; the input reads as it did. -/
def evalTextsUptoRow : OpenClaim := { program := "ytgholjhcbhcicaadoor", sum := "50d85db1ed0b8c25c650dc0848d1000c4fa2472fdc72c365507b44566eaa93e5", func := "typecase/typecaselaw12.EvalTexts", spec := "evalTexts", inPlace := ["internal/reflectlite.ValueOf", "(internal/reflectlite.Value).Type", "(internal/reflectlite.Value).IsNil", "internal/reflectlite.TypeOf", "(internal/reflectlite.Value).Elem", "(internal/reflectlite.Value).Set"], unfollowed := true, recurses := true, named := ["errors.errorType"], apart := false, laid := [("errors.errorType", laid_errors_errorType)], narrowed := true }
def EvalTextsUptoSaid : Prop := evalTextsUptoRow.holds Tryd.pinned (OpenSpec.upto evalTextsSpec)

/-- 'typecaselaw12.EvalEarly', WHERE WHAT IT READS IS OF BULK AT MOST 1048576: true; the input reads as it did. -/
def evalEarlyUptoRow : OpenClaim := { program := "ytgholjhcbhcicaadoor", sum := "50d85db1ed0b8c25c650dc0848d1000c4fa2472fdc72c365507b44566eaa93e5", func := "typecase/typecaselaw12.EvalEarly", spec := "evalEarly", inPlace := ["internal/reflectlite.ValueOf", "(internal/reflectlite.Value).Type", "(internal/reflectlite.Value).IsNil", "internal/reflectlite.TypeOf", "(internal/reflectlite.Value).Elem", "(internal/reflectlite.Value).Set"], unfollowed := true, recurses := true, named := ["errors.errorType"], apart := false, laid := [("errors.errorType", laid_errors_errorType)], narrowed := true }
def EvalEarlyUptoSaid : Prop := evalEarlyUptoRow.holds Tryd.pinned (OpenSpec.upto evalEarlySpec)

/-- 'typecaselaw12.EvalMoves', WHERE WHAT IT READS IS OF BULK AT MOST 1048576: true; the input reads as it did. -/
def evalMovesUptoRow : OpenClaim := { program := "ytgholjhcbhcicaadoor", sum := "50d85db1ed0b8c25c650dc0848d1000c4fa2472fdc72c365507b44566eaa93e5", func := "typecase/typecaselaw12.EvalMoves", spec := "evalMoves", inPlace := ["internal/reflectlite.ValueOf", "(internal/reflectlite.Value).Type", "(internal/reflectlite.Value).IsNil", "internal/reflectlite.TypeOf", "(internal/reflectlite.Value).Elem", "(internal/reflectlite.Value).Set"], unfollowed := true, recurses := true, named := ["errors.errorType"], apart := false, laid := [("errors.errorType", laid_errors_errorType)], narrowed := true }
def EvalMovesUptoSaid : Prop := evalMovesUptoRow.holds Tryd.pinned (OpenSpec.upto evalMovesSpec)

/-- 'typecaselaw12.EvalHalves', WHERE WHAT IT READS IS OF BULK AT MOST 1048576: true; the input reads as it did. -/
def evalHalvesUptoRow : OpenClaim := { program := "ytgholjhcbhcicaadoor", sum := "50d85db1ed0b8c25c650dc0848d1000c4fa2472fdc72c365507b44566eaa93e5", func := "typecase/typecaselaw12.EvalHalves", spec := "evalHalves", inPlace := ["internal/reflectlite.ValueOf", "(internal/reflectlite.Value).Type", "(internal/reflectlite.Value).IsNil", "internal/reflectlite.TypeOf", "(internal/reflectlite.Value).Elem", "(internal/reflectlite.Value).Set"], unfollowed := true, recurses := true, named := ["errors.errorType"], apart := false, laid := [("errors.errorType", laid_errors_errorType)], narrowed := true }
def EvalHalvesUptoSaid : Prop := evalHalvesUptoRow.holds Tryd.pinned (OpenSpec.upto evalHalvesSpec)

end Rows
end Go.Proofs.YtgholjhcbhcicaaDoor
