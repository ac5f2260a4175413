/- The document's symbols as the program's. -/
import Derived.Test.YtgholjhcbhcicaaDoorPAllx1
import Derived.Test.YtgholjhcbhcicaaDoorAwake
namespace Go.Proofs.YtgholjhcbhcicaaDoor.PAll
open Go.RowKit Go.Proofs.YtgholjhcbhcicaaDoorW.PrintWords Go.Proofs.YtgholjhcbhcicaaDoorW.PrintLast Go.Proofs.YtgholjhcbhcicaaDoorW.PrintMore Go.Proofs.YtgholjhcbhcicaaDoor.Errs Go.Maps
set_option linter.unusedVariables false
set_option linter.unusedSimpArgs false
/-- A symbol as the program's. -/
def symOf (s : S49) : S52 := ⟨s.f0, s.f1, if s.f2 = 0 then 0 else 1⟩
theorem syms_l (l : List S49) (hl : l.length ≤ 1000) : ∀ (d i : Nat), i + d = l.length → typecaselaw12_Syms.l0 (d + 1) l ((l.take i).map symOf) (i : Int) = some (l.map symOf)
  | 0, i, h => by
    have hi : i = l.length := by omega
    subst hi
    unfold typecaselaw12_Syms.l0
    rw [if_neg (by omega), List.take_length]
  | d + 1, i, h => by
    have hi : i < l.length := by omega
    have hx : rd_T49 l (i : Int) = l[i] := by simp [rd_T49, List.getD_eq_getElem?_getD, List.getElem?_eq_getElem hi]
    have hw : wrap64 ((i : Int) + 1) = ((i + 1 : Nat) : Int) := by unfold wrap64; omega
    have ht : (l.take (i + 1)).map symOf = (l.take i).map symOf ++ [symOf l[i]] := by rw [List.take_succ_eq_append_getElem hi, List.map_append]; rfl
    have hlen : ((l.take i).map symOf).length < 4398046511104 := by rw [List.length_map, List.length_take]; omega
    have ih := syms_l l hl d (i + 1) (by omega)
    rw [ht] at ih
    unfold typecaselaw12_Syms.l0
    rw [if_pos (by omega), if_pos (by omega), hx, hw]
    by_cases hz : (l[i]).f2 = 0
    · rw [if_pos hz, if_pos hlen]
      have e : symOf l[i] = ⟨(l[i]).f0, (l[i]).f1, 0⟩ := by simp only [symOf, if_pos hz]
      rw [e] at ih
      exact ih
    · rw [if_neg hz, if_pos hlen]
      have e : symOf l[i] = ⟨(l[i]).f0, (l[i]).f1, 1⟩ := by simp only [symOf, if_neg hz]
      rw [e] at ih
      exact ih
theorem syms_f (l : List S49) (hl : l.length ≤ 1000) : typecaselaw12_Syms.f (l.length + 1) l = some (l.map symOf) := syms_l l hl l.length 0 (by omega)
end Go.Proofs.YtgholjhcbhcicaaDoor.PAll
