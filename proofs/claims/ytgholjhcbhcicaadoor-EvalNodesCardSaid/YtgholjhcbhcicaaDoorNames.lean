/- The map of names answers as the search does. -/
import Derived.Test.YtgholjhcbhcicaaDoorReck
import Derived.StringKeys
import Derived.KernelRfl
namespace Go.Proofs.YtgholjhcbhcicaaDoor.PAll
open Go.RowKit Go.Proofs.YtgholjhcbhcicaaDoorW.PrintWords Go.Proofs.YtgholjhcbhcicaaDoorW.PrintLast Go.Proofs.YtgholjhcbhcicaaDoorW.PrintMore Go.Proofs.YtgholjhcbhcicaaDoor.Errs Go.Maps
set_option linter.unusedVariables false
set_option linter.unusedSimpArgs false
theorem kl_ne {a b : ByteArray} (h : (a.toList == b.toList) = false) : kl a ≠ kl b := by
  rw [ByteArray.toList_eq, ByteArray.toList_eq] at h
  intro e
  simp only [kl, Lit.string.injEq] at e
  rw [e] at h
  simp at h
theorem kl_eq {a b : ByteArray} (h : (a.toList == b.toList) = true) : kl a = kl b := by
  rw [ByteArray.toList_eq, ByteArray.toList_eq] at h
  have h2 : a.data.toList = b.data.toList := by simpa using h
  simp only [kl, h2]
theorem kl_key (a : ByteArray) : WideAt.IsKeyLit (kl a) := by
  simp [kl, WideAt.IsKeyLit]
theorem symIdx_take (l : List S52) (n : Nat) (hn : n < l.length) (nm : ByteArray) : symIdx (l.take (n + 1)) nm = (symIdx (l.take n) nm).or (if ((l[n]'hn).f0.toList == nm.toList) = true then some n else none) := by
  unfold symIdx
  rw [List.take_succ_eq_append_getElem hn, List.findIdx?_append]
  congr 1
  cases hb : ((l[n]'hn).f0.toList == nm.toList) <;> simp [hb, List.findIdx?_cons, Nat.min_eq_left (Nat.le_of_lt hn)]
theorem names_spec (l : List S52) (nm : ByteArray) : ∀ n, n ≤ l.length → IsMap (namesFrom l n) ∧ Maps.has (namesFrom l n) (kl nm) = (symIdx (l.take n) nm).isSome ∧ (∀ z i, symIdx (l.take n) nm = some i → (namesFrom l n).atKey (kl nm) z = .lit (.int .i64 (i : Int)))
  | 0, _ => ⟨isMap_empty, by simp [namesFrom, symIdx, has_eq], by simp [symIdx]⟩
  | n + 1, hn => by
    obtain ⟨hm, hh, ha⟩ := names_spec l nm n (by omega)
    have hx : rd_T52 l (n : Int) = l[n]'(by omega) := by simp [rd_T52, List.getD_eq_getElem?_getD, List.getElem?_eq_getElem (show n < l.length by omega)]
    rw [symIdx_take l n (by omega)]
    simp only [namesFrom, hx]
    by_cases hk : Maps.has (namesFrom l n) (kl (l[n]'(by omega)).f0) = true
    · rw [if_pos hk]
      refine ⟨hm, ?_, ?_⟩
      · rw [hh]
        cases hs : symIdx (l.take n) nm with
        | some i => simp
        | none =>
          cases hb : ((l[n]'(by omega)).f0.toList == nm.toList) with
          | false => simp
          | true =>
            rw [hs, ← kl_eq hb, hk] at hh
            simp at hh
      · intro z i hi
        cases hs : symIdx (l.take n) nm with
        | some j =>
          rw [hs] at hi
          simp at hi
          subst hi
          exact ha z j hs
        | none =>
          cases hb : ((l[n]'(by omega)).f0.toList == nm.toList) with
          | false => rw [hs, hb] at hi; simp at hi
          | true =>
            rw [hs, ← kl_eq hb, hk] at hh
            simp at hh
    · rw [if_neg hk]
      refine ⟨hm.put _ _, ?_, ?_⟩
      · cases hb : ((l[n]'(by omega)).f0.toList == nm.toList) with
        | true =>
          rw [← kl_eq hb, has_put_same hm (kl_key _)]
          simp
        | false =>
          rw [has_put_other (Ne.symm (kl_ne hb)), hh]
          simp
      · intro z i hi
        cases hb : ((l[n]'(by omega)).f0.toList == nm.toList) with
        | true =>
          have hn2 : symIdx (l.take n) nm = none := by
            rw [kl_eq hb, hh] at hk
            simpa using hk
          rw [hn2, hb] at hi
          simp at hi
          subst hi
          rw [← kl_eq hb, atKey_put_same hm (kl_key _)]
        | false =>
          rw [hb] at hi
          simp at hi
          rw [atKey_put_other (Ne.symm (kl_ne hb))]
          exact ha z i hi
theorem names_all (l : List S52) (nm : ByteArray) : Maps.has (namesFrom l l.length) (kl nm) = decide (0 ≤ idxInt (symIdx l nm)) ∧ (∀ z i, symIdx l nm = some i → (namesFrom l l.length).atKey (kl nm) z = .lit (.int .i64 (i : Int))) := by
  obtain ⟨hm, hh, ha⟩ := names_spec l nm l.length (Nat.le_refl _)
  rw [List.take_length] at hh ha
  refine ⟨?_, ha⟩
  rw [hh]
  cases symIdx l nm <;> simp [idxInt]
theorem zero_i64 (w : World) : (zeroValue 3).run Tryd.prog w = .ok (.int .i64 0) w := by kernel_rfl
/-- A look into the map of names. -/
theorem look_names {w : World} {mb n : Nat} {l : List S52} (h : w.ownsMap Tryd.prog 9 (plainElem Tryd.prog 3) mb n (namesFrom l l.length)) (nm : ByteArray) (hs : nm.size ≤ maxLen) :
    ∃ x : Int, (decide (0 ≤ idxInt (symIdx l nm)) = true → x = idxInt (symIdx l nm)) ∧ ∀ W : World, W.heap = w.heap → (Instr.lookup 74 (.map (some mb)) (.string nm) true).run Tryd.prog W = .ok (.tuple #[.int .i64 x, .bool (decide (0 ≤ idxInt (symIdx l nm)))]) W := by
  have hlook : ∀ W : World, W.heap = w.heap → ∃ v ps, (Instr.lookup 74 (.map (some mb)) (.string nm) true).run Tryd.prog W = .ok (.tuple #[v, .bool (Maps.has (namesFrom l l.length) (kl nm))]) W ∧ plainElem (H := Unit) Tryd.prog 3 v = some ((namesFrom l l.length).atKey (kl nm) (.lit (.int .i64 0)), ps) := by
    intro W hW
    have hWm : W.ownsMap Tryd.prog 9 (plainElem Tryd.prog 3) mb n (namesFrom l l.length) := by
      unfold World.ownsMap at h ⊢
      rwa [hW]
    exact hWm.look_ok (string_keyed Tryd.underlying9) Tryd.underlying74 (zero_i64 W) (plainElem_int Tryd.underlying3 (by decide)) (WideMaps.keyOf_string_mk Tryd.underlying9 hs)
  obtain ⟨hh, ha⟩ := names_all l nm
  obtain ⟨v, ps, hrun, hv⟩ := hlook w rfl
  obtain ⟨x, rfl, hx, hwf⟩ := plainElem_int_inv Tryd.underlying3 hv
  simp only [Prod.mk.injEq] at hx
  refine ⟨x, ?_, ?_⟩
  · intro hd
    cases hsi : symIdx l nm with
    | none => rw [hsi] at hd; simp [idxInt] at hd
    | some i =>
      have h2 := hx.1
      rw [ha _ i hsi] at h2
      simp at h2
      simp [idxInt, h2]
  · intro W hW
    obtain ⟨v2, ps2, hrun2, hv2⟩ := hlook W hW
    obtain ⟨x2, rfl, hx2, _⟩ := plainElem_int_inv Tryd.underlying3 hv2
    simp only [Prod.mk.injEq] at hx2
    have : x2 = x := by
      have := hx2.1.symm.trans hx.1
      simpa using this
    rw [hrun2, this, hh]
end Go.Proofs.YtgholjhcbhcicaaDoor.PAll
