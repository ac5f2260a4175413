/- Contracts for the error machinery: errors.As at a Fault (and at a Code), errors.Is of a Fault's code, by their own text and the model's entries for reflectlite. -/
import Derived.Test.YtgholjhcbhcicaaDoorWWords
import Derived.Test.YtgholjhcbhcicaaDoorProg
import Derived.WalkKit
import Derived.LaidEql
import Derived.Stop.Asserts
import Derived.RowKitTokens
import Derived.WideLaws
import Derived.Laws.Rows
namespace Go.Proofs.YtgholjhcbhcicaaDoor.Errs
open Go.RowKit Go.Extern.Stop Go.Stop Go.Extern Go.Proofs.YtgholjhcbhcicaaDoorW.PrintWords
set_option linter.unusedVariables false
set_option linter.unusedSimpArgs false
theorem rlm (z : Sem Value) (f : TypeId → Addr → Nat → Nat → Sem Value) (v : Value) :
    ReflectliteValue.method z f #[v] = (do match ← ReflectliteValue.parts v with | none => z | some (t, a, fl) => f t a fl (fl % 32)) := rfl
theorem rls (v x : Value) : ReflectliteValue.set #[v, x] = (do
    let (some (dst, a, fl), some (src, b, _)) := (← ReflectliteValue.parts v, ← ReflectliteValue.parts x)
      | unsupported (.noEntry "extern/(internal/reflectlite.Value).Set.zeroValue")
    if fl / ReflectliteValue.flagAddr % 2 == 0 then unsupported (.noEntry "extern/(internal/reflectlite.Value).Set.unaddressable")
    let val ← loadVar src b
    if ← Rtype.directlyAssignable dst src then storeVar dst a val
    else if ← Rtype.implements dst src then
      if (← Rtype.kind src) == 20 then
        match val with
        | .nilIface => unsupported (.noEntry "extern/reflectlite: a nil value of one interface type handed on as a value of another")
        | _ => storeVar dst a val
      else storeVar dst a (.iface src val)
    else panicString ("reflectlite.Set: value of type " ++ (← Rtype.spelt src) ++ " is not assignable to type " ++ (← Rtype.spelt dst))
    pure (.tuple #[])) := rfl
theorem methodKind (h : Value) (w : World) : (Go.method 291 133 (.agg #[h]) "Kind").run Tryd.prog w = .ok (81, h) w := by kernel_rfl
theorem methodElem (h : Value) (w : World) : (Go.method 291 133 (.agg #[h]) "Elem").run Tryd.prog w = .ok (93, .agg #[h]) w := by kernel_rfl
theorem methodImplements (h : Value) (w : World) : (Go.method 291 133 (.agg #[h]) "Implements").run Tryd.prog w = .ok (94, .agg #[h]) w := by kernel_rfl
theorem methodAssignableTo (h : Value) (w : World) : (Go.method 291 133 (.agg #[h]) "AssignableTo").run Tryd.prog w = .ok (91, .agg #[h]) w := by kernel_rfl
theorem grown_set (w : World) (g j : Nat) (v : Value) : w.grownBy (w.setCell ⟨g, j, none⟩ v) (some g) :=
  ⟨rfl, rfl, rfl, by simp [World.setCell], fun k hk hne => Below.heap_setCell w ⟨g, j, none⟩ v k (fun h => hne (by rw [h]))⟩
/-- errors.As of no error: false. -/
theorem as_nil (t : Value) (w : World) : Calls Tryd.prog 22 #[.nilIface, t] w fun e w' => e = .returned (.bool false) ∧ w' = w := by
  go_enter Tryd.func22, Tryd.ntmps22
  go_wp2
  go_ret
  exact ⟨rfl, rfl⟩

/-! ### errors.As at a target of type *api.Fault -/
theorem asFault.valueOfP (t : Addr) (w : World) : (ReflectliteValue.unpack (.iface 87 (.pointer (some t)))).run Tryd.prog w
    = .ok (.agg #[.pointer (some ⟨1, 87, none⟩), .pointer (some ⟨w.heap.size, 0, none⟩), .int .u64 150]) (w.alloc (.cells #[.pointer (some t)] 87)) := by kernel_rfl
theorem asFault.typeP (a : Addr) (w : World) : (ReflectliteValue.methodAny (ReflectliteValue.valueError "reflectlite.Value.Type" 0) (fun t _ _ _ => ReflectliteType.toType t) #[.agg #[.pointer (some ⟨1, 87, none⟩), .pointer (some a), .int .u64 150]]).run Tryd.prog w
    = .ok (.iface 133 (.agg #[.pointer (some ⟨1, 87, none⟩)])) w := by kernel_rfl
theorem asFault.kindP (w : World) : ((ReflectliteType.abiMethod fun t => (fun a : Nat => Value.int IntKind.u8 (a : Int)) <$> Rtype.kind t) #[.pointer (some ⟨1, 87, none⟩)]).run Tryd.prog w = .ok (.int .u8 22) w := by kernel_rfl
theorem asFault.kindE (w : World) : ((ReflectliteType.abiMethod fun t => (fun a : Nat => Value.int IntKind.u8 (a : Int)) <$> Rtype.kind t) #[.pointer (some ⟨1, 82, none⟩)]).run Tryd.prog w = .ok (.int .u8 22) w := by kernel_rfl
theorem asFault.partsP (a : Addr) (w : World) : (ReflectliteValue.parts (.agg #[.pointer (some ⟨1, 87, none⟩), .pointer (some a), .int .u64 150])).run Tryd.prog w = .ok (some (87, a, 150)) w := by kernel_rfl
theorem asFault.isNilP (a p : Addr) (W : World) (ha : W.cell? a = some (.pointer (some p))) :
    (ReflectliteValue.method (ReflectliteValue.valueError "reflectlite.Value.IsNil" 0) ReflectliteValue.isNil #[.agg #[.pointer (some ⟨1, 87, none⟩), .pointer (some a), .int .u64 150]]).run Tryd.prog W = .ok (.bool false) W := by
  rw [rlm]
  simp only [Sem.run_bind, asFault.partsP, Result.andThen]
  simp [ReflectliteValue.isNil, loadVar, isAgg, underlying, Tryd.underlying87, ha, Result.andThen]
theorem asFault.elemP (w : World) : (ReflectliteType.method ReflectliteType.elem #[.agg #[.pointer (some ⟨1, 87, none⟩)]]).run Tryd.prog w = .ok (.iface 133 (.agg #[.pointer (some ⟨1, 82, none⟩)])) w := by kernel_rfl
theorem asFault.implementsE (w : World) : (ReflectliteType.relation "Implements" ReflectliteType.implements_ #[.agg #[.pointer (some ⟨1, 82, none⟩)], .iface 133 (.agg #[.pointer (some ⟨1, 40, none⟩)])]).run Tryd.prog w = .ok (.bool true) w := by kernel_rfl
theorem asFault.typeOfE (v : Value) (w : World) : (ReflectliteType.typeOf #[.iface 82 v]).run Tryd.prog w = .ok (.iface 133 (.agg #[.pointer (some ⟨1, 82, none⟩)])) w := by kernel_rfl
theorem asFault.assignableE (w : World) : (ReflectliteType.relation "AssignableTo" ReflectliteType.assignableTo #[.agg #[.pointer (some ⟨1, 82, none⟩)], .iface 133 (.agg #[.pointer (some ⟨1, 82, none⟩)])]).run Tryd.prog w = .ok (.bool true) w := by kernel_rfl
theorem asFault.valueOfE (x : Addr) (w : World) : (ReflectliteValue.unpack (.iface 82 (.pointer (some x)))).run Tryd.prog w
    = .ok (.agg #[.pointer (some ⟨1, 82, none⟩), .pointer (some ⟨w.heap.size, 0, none⟩), .int .u64 150]) (w.alloc (.cells #[.pointer (some x)] 82)) := by kernel_rfl
theorem asFault.elemOfP (w : World) : (Rtype.elem? 87).run Tryd.prog w = .ok (some 82) w := by kernel_rfl
theorem asFault.mkE (p : Addr) (w : World) : (ReflectliteValue.mk 82 p ReflectliteValue.flagAddr).run Tryd.prog w = .ok (.agg #[.pointer (some ⟨1, 82, none⟩), .pointer (some p), .int .u64 406]) w := by kernel_rfl
theorem asFault.elemV (a p : Addr) (W : World) (ha : W.cell? a = some (.pointer (some p))) :
    (ReflectliteValue.method (ReflectliteValue.valueError "reflectlite.Value.Elem" 0) ReflectliteValue.elem #[.agg #[.pointer (some ⟨1, 87, none⟩), .pointer (some a), .int .u64 150]]).run Tryd.prog W
      = .ok (.agg #[.pointer (some ⟨1, 82, none⟩), .pointer (some p), .int .u64 406]) W := by
  rw [rlm]
  simp only [Sem.run_bind, asFault.partsP, Result.andThen]
  simp [ReflectliteValue.elem, loadVar, isAgg, underlying, Tryd.underlying87, ha, Result.andThen, asFault.elemOfP, asFault.mkE]
theorem asFault.partsEa (a : Addr) (w : World) : (ReflectliteValue.parts (.agg #[.pointer (some ⟨1, 82, none⟩), .pointer (some a), .int .u64 406])).run Tryd.prog w = .ok (some (82, a, 406)) w := by kernel_rfl
theorem asFault.partsE (a : Addr) (w : World) : (ReflectliteValue.parts (.agg #[.pointer (some ⟨1, 82, none⟩), .pointer (some a), .int .u64 150])).run Tryd.prog w = .ok (some (82, a, 150)) w := by kernel_rfl
theorem asFault.directE (w : World) : (Rtype.directlyAssignable 82 82).run Tryd.prog w = .ok true w := by kernel_rfl
theorem asFault.set (ta b : Addr) (x : Addr) (old : Value) (W : World) (hb : W.cell? b = some (.pointer (some x))) (ht : W.cell? ta = some old) (hf : W.frozen? ta = false) :
    (ReflectliteValue.set #[.agg #[.pointer (some ⟨1, 82, none⟩), .pointer (some ta), .int .u64 406], .agg #[.pointer (some ⟨1, 82, none⟩), .pointer (some b), .int .u64 150]]).run Tryd.prog W
      = .ok (.tuple #[]) (W.setCell ta (.pointer (some x))) := by
  rw [rls]
  simp only [Sem.run_bind, asFault.partsEa, asFault.partsE, Result.andThen]
  simp [ReflectliteValue.flagAddr, loadVar, isAgg, underlying, Tryd.underlying82, hb, Result.andThen, asFault.directE, storeVar, Value.cells, storeCells, Addr.add]
  rw [run_store Tryd.prog W ta _ _ (by rfl)]
  simp [ht, hf]

set_option maxHeartbeats 4000000 in
theorem asFault.exact (x : Addr) (t : Addr) (old : Value) (w : World) (hg : w.cell? ⟨0, 0, none⟩ = some (.iface 133 (.agg #[.pointer (some ⟨1, 40, none⟩)]))) (ht0 : w.cell? t = some old) (hf0 : w.frozen? t = false) :
    Calls Tryd.prog 22 #[.iface 82 (.pointer (some x)), .iface 87 (.pointer (some t))] w fun ev w' => ev = .returned (.bool true) ∧ w' = ((((w.alloc (.cells #[.pointer (some t)] 87)).alloc (.cells #[.pointer (some ⟨1, 87, none⟩), .pointer (some ⟨w.heap.size, 0, none⟩), .int .u64 150] 103)).alloc (.cells #[.pointer (some ⟨1, 87, none⟩), .pointer (some ⟨w.heap.size, 0, none⟩), .int .u64 150] 103)).alloc (.cells #[.pointer (some x)] 82)).setCell t (.pointer (some x)) := by
  have h6 := @run_callFunc_extern Tryd.prog 31 _ (fun args => ReflectliteValue.unpack (args.getD 0 (.tuple #[]))) Tryd.func31 (by kernel_rfl) (by kernel_rfl) (by kernel_rfl) (by kernel_rfl)
  have h7 := @run_callFunc_extern Tryd.prog 32 _ (ReflectliteValue.methodAny (ReflectliteValue.valueError "reflectlite.Value.Type" 0) (fun t _ _ _ => ReflectliteType.toType t)) Tryd.func32 (by kernel_rfl) (by kernel_rfl) (by kernel_rfl) (by kernel_rfl)
  have h8 := @run_callFunc_extern Tryd.prog 33 _ (ReflectliteValue.method (ReflectliteValue.valueError "reflectlite.Value.IsNil" 0) ReflectliteValue.isNil) Tryd.func33 (by kernel_rfl) (by kernel_rfl) (by kernel_rfl) (by kernel_rfl)
  have h27 := @run_callFunc_extern Tryd.prog 81 _ (ReflectliteType.abiMethod fun t => do pure (.int .u8 (← Rtype.kind t))) Tryd.func81 (by kernel_rfl) (by kernel_rfl) (by kernel_rfl) (by kernel_rfl)
  have h37 := @run_callFunc_extern Tryd.prog 93 _ (ReflectliteType.method ReflectliteType.elem) Tryd.func93 (by kernel_rfl) (by kernel_rfl) (by kernel_rfl) (by kernel_rfl)
  have h38 := @run_callFunc_extern Tryd.prog 94 _ (ReflectliteType.relation "Implements" ReflectliteType.implements_) Tryd.func94 (by kernel_rfl) (by kernel_rfl) (by kernel_rfl) (by kernel_rfl)
  have h10 := @run_callFunc_extern Tryd.prog 39 _ ReflectliteType.typeOf Tryd.func39 (by kernel_rfl) (by kernel_rfl) (by kernel_rfl) (by kernel_rfl)
  have h35 := @run_callFunc_extern Tryd.prog 91 _ (ReflectliteType.relation "AssignableTo" ReflectliteType.assignableTo) Tryd.func91 (by kernel_rfl) (by kernel_rfl) (by kernel_rfl) (by kernel_rfl)
  have h11 := @run_callFunc_extern Tryd.prog 50 _ (ReflectliteValue.method (ReflectliteValue.valueError "reflectlite.Value.Elem" 0) ReflectliteValue.elem) Tryd.func50 (by kernel_rfl) (by kernel_rfl) (by kernel_rfl) (by kernel_rfl)
  have h12 := @run_callFunc_extern Tryd.prog 51 _ ReflectliteValue.set Tryd.func51 (by kernel_rfl) (by kernel_rfl) (by kernel_rfl) (by kernel_rfl)
  have tO := asFault.typeOfE
  have mA := methodAssignableTo
  have a25 := asFault.assignableE
  have v25 := asFault.valueOfE
  have f6 := asFault.valueOfP
  have f7 := asFault.typeP
  have mK := methodKind
  have mE := methodElem
  have mI := methodImplements
  have k27 := asFault.kindP
  have k25 := asFault.kindE
  have e27 := asFault.elemP
  have i25 := asFault.implementsE
  have n8 := asFault.isNilP ⟨w.heap.size, 0, none⟩ t ((w.alloc (.cells #[.pointer (some t)] 87)).alloc (.cells #[.pointer (some ⟨1, 87, none⟩), .pointer (some ⟨w.heap.size, 0, none⟩), .int .u64 150] 103)) (by simp)
  have hlt : 0 < w.heap.size := by
    rcases Nat.eq_zero_or_pos w.heap.size with h0 | h
    · simp [World.cell?, h0] at hg
    · exact h
  have hg2 : ((w.alloc (.cells #[.pointer (some t)] 87)).alloc (.cells #[.pointer (some ⟨1, 87, none⟩), .pointer (some ⟨w.heap.size, 0, none⟩), .int .u64 150] 103)).cell? ⟨0, 0, none⟩ = some (.iface 133 (.agg #[.pointer (some ⟨1, 40, none⟩)])) := by
    rw [World.cell?_alloc_lt _ _ ⟨0, 0, none⟩ (by simp), World.cell?_alloc_lt _ _ ⟨0, 0, none⟩ hlt]; exact hg
  have htl : t.block < w.heap.size := by
    rcases Nat.lt_or_ge t.block w.heap.size with h | h
    · exact h
    · simp [World.cell?, Array.getElem?_eq_none h] at ht0
  have el := asFault.elemV ⟨w.heap.size, 0, none⟩ t (((w.alloc (.cells #[.pointer (some t)] 87)).alloc (.cells #[.pointer (some ⟨1, 87, none⟩), .pointer (some ⟨w.heap.size, 0, none⟩), .int .u64 150] 103)).alloc (.cells #[.pointer (some ⟨1, 87, none⟩), .pointer (some ⟨w.heap.size, 0, none⟩), .int .u64 150] 103)) (by rw [World.cell?_alloc_lt _ _ ⟨w.heap.size, 0, none⟩ (by simp; omega)]; simp)
  have st := asFault.set t ⟨w.heap.size + 1 + 1 + 1, 0, none⟩ x old ((((w.alloc (.cells #[.pointer (some t)] 87)).alloc (.cells #[.pointer (some ⟨1, 87, none⟩), .pointer (some ⟨w.heap.size, 0, none⟩), .int .u64 150] 103)).alloc (.cells #[.pointer (some ⟨1, 87, none⟩), .pointer (some ⟨w.heap.size, 0, none⟩), .int .u64 150] 103)).alloc (.cells #[.pointer (some x)] 82))
    (by rw [World.cell?_alloc_at _ _ _ _ (by simp)]; rfl)
    (by rw [World.cell?_alloc_lt _ _ t (by simp; omega), World.cell?_alloc_lt _ _ t (by simp; omega), World.cell?_alloc_lt _ _ t (by simp; omega), World.cell?_alloc_lt _ _ t htl]; exact ht0)
    (by rw [World.frozen?_alloc_old _ _ t (by simp; omega), World.frozen?_alloc_old _ _ t (by simp; omega), World.frozen?_alloc_old _ _ t (by simp; omega), World.frozen?_alloc_old _ _ t (Nat.ne_of_lt htl)]; exact hf0)
  go_enter Tryd.func22, Tryd.ntmps22
  go_wp2
  refine wp_loop_rounds 1 ?_
  rw [rounds_succ]
  go_wp2
  go_ret
  exact ⟨rfl, rfl⟩
/-- errors.As hits: true; the target's one cell is the error's value; all else is as it was. -/
theorem asFault.hit (x : Addr) (g T0 : Nat) (old : Value) (w : World) (hg : w.cell? ⟨0, 0, none⟩ = some (.iface 133 (.agg #[.pointer (some ⟨1, 40, none⟩)]))) (hb : w.heap[g]? = some (.cells #[old] T0 (0, 0))) :
    Calls Tryd.prog 22 #[.iface 82 (.pointer (some x)), .iface 87 (.pointer (some ⟨g, 0, none⟩))] w fun ev w' => ev = .returned (.bool true) ∧ w.grownBy w' (some g) ∧ w'.heap[g]? = some (.cells #[.pointer (some x)] T0 (0, 0)) := by
  have hlt : g < w.heap.size := (Array.getElem?_eq_some_iff.1 hb).1
  refine (asFault.exact x ⟨g, 0, none⟩ old w hg (by simp [World.cell?, hb]) (by simp [World.frozen?, hb])).mono ?_
  rintro ev w' ⟨rfl, rfl⟩
  refine ⟨rfl, ?_, ?_⟩
  · exact ((((World.grownBy_alloc w _ (some g)).trans (World.grownBy_alloc _ _ _)).trans (World.grownBy_alloc _ _ _)).trans (World.grownBy_alloc _ _ _)).trans (grown_set _ g 0 _)
  · rw [heap_setCell_same _ g 0 #[old] T0 _ (by rw [Below.heap_alloc _ _ _ (by simp; omega), Below.heap_alloc _ _ _ (by simp; omega), Below.heap_alloc _ _ _ (by simp; omega), Below.heap_alloc _ _ _ hlt]; exact hb)]
    rfl

/-! ### errors.Is of a Fault's code -/
theorem run_equalIn_iface_int {P : Program} (w : World) (d : Nat) {ti tn : TypeId} {ms : Array (String × TypeId)} {i : TypeInfo} {k : IntKind} (a b : Int)
    (hi : P.underlying ti = some (.interface ms)) (hn : P.underlying tn = some (.int k)) (hinfo : P.info? tn = some i) (hcomp : i.comparable = true) :
    (Op.equalIn (d + 2) ti (.iface tn (.int k a)) (.iface tn (.int k b))).run P w = .ok (a == b) w := by
  simp [Op.equalIn, run_underlying hi, run_underlying hn, typeInfo, hinfo, hcomp]
theorem run_eql_iface_int {P : Program} {ti tn : TypeId} {ms : Array (String × TypeId)} {k : IntKind} (a b : Int)
    (hi : P.underlying ti = some (.interface ms)) (hn : P.underlying tn = some (.int k)) (hc : (P.info? tn).map (·.comparable) = some true) (w : World) :
    (binOp .eql ti (.iface tn (.int k a)) (.iface tn (.int k b))).run P w = .ok (.bool (a == b)) w := by
  obtain ⟨i, hinfo, hcomp⟩ := Option.map_eq_some_iff.1 hc
  simp only [binOp]
  simp [Op.equal, Op.maxDepth, run_equalIn_iface_int w 9998 a b hi hn hinfo hcomp]
theorem eqCodes (a b : Int) (w : World) : (binOp .eql 40 (.iface 78 (.int .i64 a)) (.iface 78 (.int .i64 b))).run Tryd.prog w = .ok (.bool (a == b)) w := run_eql_iface_int a b Tryd.underlying40 Tryd.underlying78 (by kernel_rfl) w
theorem eqOther (v x : Value) (w : World) : (binOp .eql 40 (.iface 82 v) (.iface 78 x)).run Tryd.prog w = .ok (.bool false) w := run_eql_iface_types 82 78 v x Tryd.underlying40 (by decide) w
theorem typeOfCode (v : Value) (w : World) : (ReflectliteType.typeOf #[.iface 78 v]).run Tryd.prog w = .ok (.iface 133 (.agg #[.pointer (some ⟨1, 78, none⟩)])) w := by kernel_rfl
theorem methodComparable (h : Value) (w : World) : (Go.method 291 133 (.agg #[h]) "Comparable").run Tryd.prog w = .ok (92, .agg #[h]) w := by kernel_rfl
theorem comparableCode (w : World) : (ReflectliteType.method (fun t => do Rtype.noPackHeld "Comparable" t; (fun a : TypeInfo => Value.bool a.comparable) <$> typeInfo t) #[.agg #[.pointer (some ⟨1, 78, none⟩)]]).run Tryd.prog w = .ok (.bool true) w := by kernel_rfl
theorem noIsF (v : Value) (w : World) : (Instr.typeAssert (.iface 82 v) 40 150 true).run Tryd.prog w = .ok (.tuple #[.nilIface, .bool false]) w := run_typeAssert_lacksB Tryd.underlying150 (by kernel_rfl) (by kernel_rfl) v 40 w
theorem noIsC (v : Value) (w : World) : (Instr.typeAssert (.iface 78 v) 40 150 true).run Tryd.prog w = .ok (.tuple #[.nilIface, .bool false]) w := run_typeAssert_lacksB Tryd.underlying150 (by kernel_rfl) (by kernel_rfl) v 40 w
theorem unwrapF (v : Value) (w : World) : (Instr.typeAssert (.iface 82 v) 40 140 true).run Tryd.prog w = .ok (.tuple #[.iface 82 v, .bool true]) w := run_typeAssert_hasB Tryd.underlying140 (by kernel_rfl) v 40 w
theorem noUnwrapC (v : Value) (w : World) : (Instr.typeAssert (.iface 78 v) 40 140 true).run Tryd.prog w = .ok (.tuple #[.nilIface, .bool false]) w := run_typeAssert_lacksB Tryd.underlying140 (by kernel_rfl) (by kernel_rfl) v 40 w
theorem noUnwrapsC (v : Value) (w : World) : (Instr.typeAssert (.iface 78 v) 40 142 true).run Tryd.prog w = .ok (.tuple #[.nilIface, .bool false]) w := run_typeAssert_lacksB Tryd.underlying142 (by kernel_rfl) (by kernel_rfl) v 40 w
theorem methodUnwrap (p : Option Addr) (w : World) : (Go.method 291 82 (.pointer p) "Unwrap").run Tryd.prog w = .ok (86, .pointer p) w := by kernel_rfl
set_option maxHeartbeats 4000000 in
set_option maxRecDepth 100000 in
theorem is_code (b : Nat) (x y : Value) (k c : Int) (fr : Nat × Nat) (T0 : Nat) (w : World) (hb : w.heap[b]? = some (.cells #[x, y, .iface 78 (.int .i64 k)] T0 fr)) :
    Calls Tryd.prog 24 #[.iface 82 (.pointer (some ⟨b, 0, none⟩)), .iface 78 (.int .i64 c)] w fun e w' => e = .returned (.bool (k == c)) ∧ w' = w := by
  have hc : w.cell? ⟨b, 2, none⟩ = some (.iface 78 (.int .i64 k)) := by simp [World.cell?, hb]
  have h10 := @run_callFunc_extern Tryd.prog 39 _ ReflectliteType.typeOf Tryd.func39 (by kernel_rfl) (by kernel_rfl) (by kernel_rfl) (by kernel_rfl)
  have h92 := @run_callFunc_extern Tryd.prog 92 _ (ReflectliteType.method (fun t => do Rtype.noPackHeld "Comparable" t; pure (Value.bool (← typeInfo t).comparable))) Tryd.func92 (by kernel_rfl) (by kernel_rfl) (by kernel_rfl) (by kernel_rfl)
  have e1 := eqCodes
  have e2 := eqOther
  have e3 := typeOfCode
  have e4 := methodComparable
  have e5 := comparableCode
  have e6 := noIsF
  have e7 := noIsC
  have e8 := unwrapF
  have e9 := noUnwrapC
  have e10 := noUnwrapsC
  have e11 := methodUnwrap
  have hu := Tryd.underlying40
  by_cases hk : k = c
  · subst hk
    have hk1 : (k == k) = true := by simp
    go_enter Tryd.func24, Tryd.ntmps24
    go_wp2
    refine wp_loop_rounds 2 ?_
    rw [rounds_succ]
    go_wp2
    rw [rounds_succ]
    go_wp2
    go_ret
    exact ⟨by rw [hk1]; rfl, rfl⟩
  · have hk1 : (k == c) = false := by simpa using hk
    go_enter Tryd.func24, Tryd.ntmps24
    go_wp2
    refine wp_loop_rounds 2 ?_
    rw [rounds_succ]
    go_wp2
    rw [rounds_succ]
    go_wp2
    go_ret
    exact ⟨by rw [hk1]; rfl, rfl⟩
end Go.Proofs.YtgholjhcbhcicaaDoor.Errs
