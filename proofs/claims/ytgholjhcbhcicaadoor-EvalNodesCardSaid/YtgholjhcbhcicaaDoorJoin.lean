/- What nodes come to is told at every input, whatever classes the parts have. -/
import Derived.Test.YtgholjhcbhcicaaDoorTotal
namespace Go.Proofs.YtgholjhcbhcicaaDoor.PAll
open Go.RowKit Go.Proofs.YtgholjhcbhcicaaDoorW.PrintWords Go.Proofs.YtgholjhcbhcicaaDoorW.PrintLast Go.Proofs.YtgholjhcbhcicaaDoorW.PrintMore Go.Proofs.YtgholjhcbhcicaaDoor.Errs Go.Maps
set_option linter.unusedVariables false
set_option linter.unusedSimpArgs false
/-- Two numbers that are reckoned. -/
def binF (kind a b : Int) : Int := (eval_reckoned.f kind a b).getD 0
/-- Two parts: value, class, code. -/
def joinF (kind a ca b cb : Int) : Int × Int × Int :=
  if kind = 9 then (if ca = 1 ∧ cb = 1 then (0, 0, 7) else ((a + b) % 4294967296, (if ca = 1 ∨ cb = 1 then 1 else 0), 0))
  else if kind = 10 then (if ca = 0 ∧ cb = 1 then (0, 0, 7) else ((a - b) % 4294967296, (if ca = 1 ∧ cb = 0 then 1 else 0), 0))
  else if ca = 1 ∨ cb = 1 then (0, 0, 7)
  else if kind = 12 ∧ b = 0 then (0, 0, 12)
  else (binF kind a b, 0, 0)
theorem joined_eq (kind a ca b cb : Int) (ha : U32 a) (hb : U32 b) (hca : ca = 0 ∨ ca = 1) (hcb : cb = 0 ∨ cb = 1) : eval_joined.f 3 kind a ca b cb = some (joinF kind a ca b cb) := by
  have hr : (kind = 12 → b ≠ 0) → eval_reckoned.f kind a b = some (binF kind a b) := fun hk => by
    obtain ⟨v, hv, _⟩ := reck_total kind a b ha hb hk
    unfold binF
    rw [hv]
    rfl
  unfold eval_joined.f joinF
  by_cases h9 : kind = 9
  · subst h9
    rcases hca with rfl | rfl <;> rcases hcb with rfl | rfl <;> simp [eval_joined.j0, eval_sum.f, eval_sum.j0, eval_sum.j1]
  by_cases h10 : kind = 10
  · subst h10
    rcases hca with rfl | rfl <;> rcases hcb with rfl | rfl <;> simp [eval_joined.j0, eval_difference.f]
  by_cases h12 : kind = 12
  · subst h12
    by_cases hb0 : b = 0
    · subst hb0
      rcases hca with rfl | rfl <;> rcases hcb with rfl | rfl <;> simp [eval_joined.j0, eval_joined.j1]
    · have := hr (fun _ => hb0)
      rcases hca with rfl | rfl <;> rcases hcb with rfl | rfl <;> simp [eval_joined.j0, eval_joined.j1, hb0, this]
  · have := hr (fun h => absurd h h12)
    rcases hca with rfl | rfl <;> rcases hcb with rfl | rfl <;> simp [eval_joined.j0, h9, h10, h12, this]
theorem binF_u32 (kind a b : Int) (ha : U32 a) (hb : U32 b) : U32 (binF kind a b) := by
  by_cases hk : kind = 12 ∧ b = 0
  · obtain ⟨rfl, rfl⟩ := hk
    simp [binF, eval_reckoned.f, U32]
  · obtain ⟨v, hv, hu⟩ := reck_total kind a b ha hb (fun h h2 => hk ⟨h, h2⟩)
    unfold binF
    rw [hv]
    exact hu
/-- A part that is in range. -/
def GoodP (p : S86) : Prop := U32 p.f0 ∧ (p.f1 = 0 ∨ p.f1 = 1)
def GoodR (r : Int × Int × Int) : Prop := U32 r.1 ∧ (r.2.1 = 0 ∨ r.2.1 = 1)
def GoodS (s : S52) : Prop := U32 s.f1 ∧ (s.f2 = 0 ∨ s.f2 = 1)
theorem joinF_good (kind a ca b cb : Int) (ha : U32 a) (hb : U32 b) : GoodR (joinF kind a ca b cb) := by
  have hz : U32 0 := by unfold U32; omega
  have hu : ∀ x : Int, U32 (x % 4294967296) := fun x => by unfold U32; omega
  unfold joinF GoodR
  repeat' split
  all_goals first | exact ⟨hz, .inl rfl⟩ | exact ⟨hu _, .inl rfl⟩ | exact ⟨hu _, .inr rfl⟩ | exact ⟨binF_u32 _ _ _ ha hb, .inl rfl⟩
/-- One part: value, class, code. -/
def turnT (kind v cls place : Int) (early : Bool) : Int × Int × Int := (turnedF kind v cls place early).getD (0, 0, 0)
theorem turned_eq (kind v cls place : Int) (early : Bool) (hv : U32 v) : turnedF kind v cls place early = some (turnT kind v cls place early) := by
  have : ∃ r, turnedF kind v cls place early = some r := by
    unfold turnedF
    by_cases h6 : kind = 6
    · exact ⟨_, by rw [if_pos h6, hi_eq v hv.1 hv.2]; rfl⟩
    by_cases h7 : kind = 7
    · exact ⟨_, by rw [if_neg h6, if_pos h7, lo_eq v hv.1 hv.2]; rfl⟩
    rw [if_neg h6, if_neg h7]
    repeat' split
    all_goals exact ⟨_, rfl⟩
  obtain ⟨r, hr⟩ := this
  unfold turnT
  rw [hr]
  rfl
theorem turnT_good (kind v cls place : Int) (early : Bool) (hv : U32 v) : GoodR (turnT kind v cls place early) := by
  have hz : U32 0 := by unfold U32; omega
  have hu : ∀ x : Int, U32 (x % 4294967296) := fun x => by unfold U32; omega
  unfold turnT turnedF
  by_cases h6 : kind = 6
  · rw [if_pos h6, hi_eq v hv.1 hv.2]
    refine ⟨?_, .inl rfl⟩
    simp only [Option.bind_some, Option.getD_some, U32]
    omega
  by_cases h7 : kind = 7
  · rw [if_neg h6, if_pos h7, lo_eq v hv.1 hv.2]
    exact ⟨hu _, .inl rfl⟩
  rw [if_neg h6, if_neg h7]
  repeat' split
  all_goals first | exact ⟨hz, .inl rfl⟩ | exact ⟨hu _, .inl rfl⟩ | exact ⟨bits_u32 _ _ _, .inl rfl⟩
theorem rd52_eq {l : List S52} {i : Nat} (h : i < l.length) : rd_T52 l (i : Int) = l[i] := by simp [rd_T52, List.getD_eq_getElem?_getD, List.getElem?_eq_getElem h]
theorem rd86_eq {l : List S86} {i : Int} (h0 : 0 ≤ i) (h : i < l.length) : rd_T86 l i = l[i.toNat]'(by omega) := by
  simp [rd_T86, List.getD_eq_getElem?_getD, List.getElem?_eq_getElem (show i.toNat < l.length by omega)]
theorem symIdx_lt {l : List S52} {nm : ByteArray} {i : Nat} (h : symIdx l nm = some i) : i < l.length := by
  unfold symIdx at h
  exact (List.findIdx?_eq_some_iff_getElem.1 h).1
theorem plainF_good (n : S47) (syms : List S52) (place : Int) (early : Bool) (hn : U32 n.f3) (hp : U32 place) (hs : ∀ s ∈ syms, GoodS s) : GoodR (plainF n syms place early) := by
  have hz : U32 0 := by unfold U32; omega
  unfold plainF
  split
  · exact ⟨hn, .inl rfl⟩
  split
  · split
    · exact ⟨hz, .inl rfl⟩
    · exact ⟨hp, .inr rfl⟩
  cases hi : symIdx syms n.f4 with
  | none => exact ⟨hz, .inl rfl⟩
  | some i =>
    have hlt := symIdx_lt hi
    obtain ⟨h1, h2⟩ := hs _ (List.getElem_mem hlt)
    simp only [rd52_eq hlt]
    split
    · exact ⟨hz, .inl rfl⟩
    · exact ⟨h1, h2⟩
theorem good_rd {left : List S86} (h : ∀ p ∈ left, GoodP p) (i : Int) (h0 : 0 ≤ i) (h1 : i < left.length) : GoodP (rd_T86 left i) := by
  rw [rd86_eq h0 h1]
  exact h _ (List.getElem_mem _)
/-- What a node comes to, at every input. -/
def nodeT (n : S47) (left : List S86) (syms : List S52) (place : Int) (early : Bool) : Int × Int × Int :=
  if partsOf n.f0 = 0 then plainF n syms place early
  else if partsOf n.f0 = 1 then turnT n.f0 (rd_T86 left ((left.length : Int) - 1)).f0 (rd_T86 left ((left.length : Int) - 1)).f1 place early
  else joinF n.f0 (rd_T86 left ((left.length : Int) - 2)).f0 (rd_T86 left ((left.length : Int) - 2)).f1 (rd_T86 left ((left.length : Int) - 1)).f0 (rd_T86 left ((left.length : Int) - 1)).f1
/-- A node, at every input: the parts that are left, and a code. -/
def stepT (syms : List S52) (place : Int) (early : Bool) (left : List S86) (n : S47) : List S86 × Int :=
  if partsOf n.f0 < 0 ∨ (left.length : Int) < partsOf n.f0 then (left, 6)
  else (if (nodeT n left syms place early).2.2 = 0 then left.take (left.length - (partsOf n.f0).toNat) ++ [⟨(nodeT n left syms place early).1, (nodeT n left syms place early).2.1⟩] else left, (nodeT n left syms place early).2.2)
theorem step_eq (syms : List S52) (place : Int) (early : Bool) (left : List S86) (n : S47) (hn : U32 n.f3) (hp : U32 place) (hs : ∀ s ∈ syms, GoodS s) (hl : ∀ p ∈ left, GoodP p) :
    stepF 3 syms place early left n = some (stepT syms place early left n) ∧ ∀ p ∈ (stepT syms place early left n).1, GoodP p := by
  unfold stepF stepT
  by_cases hbad : partsOf n.f0 < 0 ∨ (left.length : Int) < partsOf n.f0
  · rw [if_pos hbad, if_pos hbad]
    exact ⟨rfl, hl⟩
  rw [if_neg hbad, if_neg hbad]
  have hn1 : ¬ partsOf n.f0 < 0 := fun e => hbad (.inl e)
  have hn2 : ¬ (left.length : Int) < partsOf n.f0 := fun e => hbad (.inr e)
  have key : nodeF 3 n left syms place early = some (nodeT n left syms place early) ∧ GoodR (nodeT n left syms place early) := by
    unfold nodeF nodeT
    rcases parts_cases n.f0 with hq | hq | hq | hq
    · omega
    · simp only [if_pos hq]
      exact ⟨by trivial, plainF_good n syms place early hn hp hs⟩
    · simp only [hq, if_neg (show ¬ ((1 : Int) = 0) by decide), if_true]
      have hg := good_rd hl ((left.length : Int) - 1) (by omega) (by omega)
      exact ⟨turned_eq _ _ _ _ _ hg.1, turnT_good _ _ _ _ _ hg.1⟩
    · simp only [hq, if_neg (show ¬ ((2 : Int) = 0) by decide), if_neg (show ¬ ((2 : Int) = 1) by decide)]
      have hg := good_rd hl ((left.length : Int) - 1) (by omega) (by omega)
      have hg2 := good_rd hl ((left.length : Int) - 2) (by omega) (by omega)
      exact ⟨joined_eq _ _ _ _ _ hg2.1 hg.1 hg2.2 hg.2, joinF_good _ _ _ _ _ hg2.1 hg.1⟩
  rw [key.1]
  refine ⟨by trivial, fun p hp => ?_⟩
  simp only at hp
  split at hp
  · rcases List.mem_append.1 hp with hp | hp
    · exact hl p (List.mem_of_mem_take hp)
    · rw [List.mem_singleton] at hp
      subst hp
      exact key.2
  · exact hl p hp
/-- The nodes, one after the other, at every input. -/
def runT (syms : List S52) (place : Int) (early : Bool) : List S47 → List S86 → List S86 × Option (Int × Int × Int)
  | [], left => (left, none)
  | n :: t, left => if (stepT syms place early left n).2 = 0 then runT syms place early t (stepT syms place early left n).1 else ((stepT syms place early left n).1, some (n.f1, n.f2, (stepT syms place early left n).2))
theorem run_eq (syms : List S52) (place : Int) (early : Bool) (hp : U32 place) (hs : ∀ s ∈ syms, GoodS s) : ∀ (l : List S47) (left : List S86), (∀ n ∈ l, U32 n.f3) → (∀ p ∈ left, GoodP p) →
    runF 3 syms place early l left = some (runT syms place early l left) ∧ ∀ p ∈ (runT syms place early l left).1, GoodP p
  | [], left, _, hl => ⟨rfl, hl⟩
  | n :: t, left, hn, hl => by
    obtain ⟨h1, h2⟩ := step_eq syms place early left n (hn n (List.mem_cons_self ..)) hp hs hl
    simp only [runF, runT, h1, Option.bind_some]
    split
    · exact run_eq syms place early hp hs t _ (fun m hm => hn m (List.mem_cons_of_mem _ hm)) h2
    · exact ⟨by rfl, h2⟩
/-- What nodes come to, at every input: value, class, fault. -/
def valueT (l : List S47) (syms : List S52) (place : Int) (early : Bool) : Int × Int × Option (Int × Int × Int) :=
  match (runT syms place early l []).2 with
  | some f => (0, 0, some f)
  | none => if (runT syms place early l []).1.length = 1 then ((rd_T86 (runT syms place early l []).1 0).f0, (rd_T86 (runT syms place early l []).1 0).f1, none)
      else (0, 0, some (if l.length = 0 then (0, 0, 6) else ((rd_T47 l ((l.length : Int) - 1)).f1, (rd_T47 l ((l.length : Int) - 1)).f2, 6)))
theorem value_eq (l : List S47) (syms : List S52) (place : Int) (early : Bool) (hp : U32 place) (hs : ∀ s ∈ syms, GoodS s) (hn : ∀ n ∈ l, U32 n.f3) :
    valueF 3 l syms place early = some (valueT l syms place early) := by
  obtain ⟨h1, _⟩ := run_eq syms place early hp hs l [] hn (fun p hp => by cases hp)
  unfold valueF valueT
  rw [h1]
  generalize runT syms place early l [] = r
  obtain ⟨left, f⟩ := r
  cases f with
  | some f => rfl
  | none =>
    simp only [Option.bind_some]
    split <;> rfl
end Go.Proofs.YtgholjhcbhcicaaDoor.PAll
