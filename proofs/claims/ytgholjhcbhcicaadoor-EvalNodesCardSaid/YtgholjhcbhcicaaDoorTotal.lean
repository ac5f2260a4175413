/- What nodes come to is told at every input: ranges. -/
import Derived.Test.YtgholjhcbhcicaaDoorSyms
import Derived.Test.YtgholjhcbhcicaaDoorHalvesPure
namespace Go.Proofs.YtgholjhcbhcicaaDoor.PAll
open Go.RowKit Go.Proofs.YtgholjhcbhcicaaDoorW.PrintWords Go.Proofs.YtgholjhcbhcicaaDoorW.PrintLast Go.Proofs.YtgholjhcbhcicaaDoorW.PrintMore Go.Proofs.YtgholjhcbhcicaaDoor.Errs Go.Maps
set_option linter.unusedVariables false
set_option linter.unusedSimpArgs false
/-- A number of 32 bits. -/
def U32 (x : Int) : Prop := 0 ≤ x ∧ x < 4294967296
theorem wrap_u32 (x : Int) : U32 (IntKind.u32.wrap x) := by
  simp [U32, IntKind.wrap, IntKind.bits, IntKind.signed]
  omega
theorem bits_u32 (op : BinOp) (x y : Int) : U32 (Go.bits op .u32 x y) := by
  unfold Go.bits
  exact wrap_u32 _
theorem shl_u32 (x y : Int) : U32 (shl .u32 x y) := by
  unfold shl
  exact wrap_u32 _
theorem reck_total (kind a b : Int) (ha : U32 a) (hb : U32 b) (hk : kind = 12 → b ≠ 0) : ∃ v, eval_reckoned.f kind a b = some v ∧ U32 v := by
  unfold eval_reckoned.f
  split
  · exact ⟨_, rfl, by unfold U32; omega⟩
  · split
    · rename_i h12
      rw [if_neg (hk h12)]
      refine ⟨_, rfl, by unfold U32; omega⟩
    · split
      · rw [if_pos hb.1]
        exact ⟨_, rfl, shl_u32 _ _⟩
      · split
        · rw [if_pos hb.1]
          refine ⟨_, rfl, ?_⟩
          unfold shr
          exact ⟨Int.ediv_nonneg ha.1 (Int.pow_nonneg (by decide)), Int.lt_of_le_of_lt (Int.ediv_le_self _ ha.1) ha.2⟩
        · split
          · exact ⟨_, rfl, bits_u32 _ _ _⟩
          · split
            · exact ⟨_, rfl, bits_u32 _ _ _⟩
            · exact ⟨_, rfl, bits_u32 _ _ _⟩
/-- Two Fixed parts come to a Fixed one, or to a code. -/
theorem joined_fixed (kind a b : Int) (ha : U32 a) (hb : U32 b) : ∃ v c, eval_joined.f 3 kind a 0 b 0 = some (v, 0, c) ∧ U32 v := by
  have hz : U32 0 := by unfold U32; omega
  have hu : ∀ x : Int, U32 (x % 4294967296) := fun x => by unfold U32; omega
  unfold eval_joined.f
  rw [if_pos rfl]
  simp only [eval_joined.j0, eval_joined.j1]
  by_cases h9 : kind = 9
  · subst h9
    exact ⟨(a + b) % 4294967296, 0, rfl, hu _⟩
  rw [if_neg h9]
  by_cases h10 : kind = 10
  · subst h10
    exact ⟨(a - b) % 4294967296, 0, rfl, hu _⟩
  rw [if_neg h10]
  by_cases h12 : kind = 12
  · subst h12
    by_cases hb0 : b = 0
    · subst hb0
      exact ⟨0, 12, rfl, hz⟩
    · obtain ⟨v, hv, hvu⟩ := reck_total 12 a b ha hb (fun _ => hb0)
      refine ⟨v, 0, ?_, hvu⟩
      have e : (b == 0) = false := by simpa using hb0
      simp [e, hv]
  · rw [if_neg h12]
    obtain ⟨v, hv, hvu⟩ := reck_total kind a b ha hb (fun h => absurd h h12)
    refine ⟨v, 0, ?_, hvu⟩
    simp [hv]
/-- One Fixed part, early: a Fixed one, the same at every place; or a code. -/
theorem turned_fixed (kind v a : Int) (hv : U32 v) : ∃ r c, turnedF kind v 0 a true = some (r, 0, c) ∧ U32 r ∧ (c = 0 → ∀ b, turnedF kind v 0 b false = some (r, 0, 0)) := by
  have hz : U32 0 := by unfold U32; omega
  have hu : ∀ x : Int, U32 (x % 4294967296) := fun x => by unfold U32; omega
  unfold turnedF
  by_cases h6 : kind = 6
  · refine ⟨_, 0, by rw [if_pos h6, hi_eq v hv.1 hv.2]; rfl, ?_, fun _ b => by rw [if_pos h6, hi_eq v hv.1 hv.2]; rfl⟩
    unfold U32
    omega
  by_cases h7 : kind = 7
  · exact ⟨_, 0, by rw [if_neg h6, if_pos h7, lo_eq v hv.1 hv.2]; rfl, hu _, fun _ b => by rw [if_neg h6, if_pos h7, lo_eq v hv.1 hv.2]; rfl⟩
  by_cases h8 : kind = 8
  · exact ⟨0, 7, by rw [if_neg h6, if_neg h7, if_pos h8]; rfl, hz, fun h => by cases h⟩
  by_cases h4 : kind = 4
  · exact ⟨_, 0, by rw [if_neg h6, if_neg h7, if_neg h8, if_neg (by simp), if_pos h4], hu _, fun _ b => by rw [if_neg h6, if_neg h7, if_neg h8, if_neg (by simp), if_pos h4]⟩
  · exact ⟨_, 0, by rw [if_neg h6, if_neg h7, if_neg h8, if_neg (by simp), if_neg h4], bits_u32 _ _ _, fun _ b => by rw [if_neg h6, if_neg h7, if_neg h8, if_neg (by simp), if_neg h4]⟩
/-- A node without parts, early: a Fixed one, the same at every place; or a code. -/
theorem plain_fixed (n : S47) (syms : List S52) (a : Int) (hn : U32 n.f3) (hs : ∀ s ∈ syms, U32 s.f1 ∧ (s.f2 = 0 ∨ s.f2 = 1)) : ∃ r c, plainF n syms a true = (r, 0, c) ∧ U32 r ∧ (c = 0 → ∀ b, plainF n syms b false = (r, 0, 0)) := by
  have hz : U32 0 := by unfold U32; omega
  unfold plainF
  by_cases h1 : n.f0 = 1
  · exact ⟨n.f3, 0, by rw [if_pos h1], hn, fun _ b => by rw [if_pos h1]⟩
  by_cases h3 : n.f0 = 3
  · exact ⟨0, 7, by rw [if_neg h1, if_pos h3]; rfl, hz, fun h => by cases h⟩
  rw [if_neg h1, if_neg h3]
  cases hi : symIdx syms n.f4 with
  | none => exact ⟨0, 11, rfl, hz, fun h => by cases h⟩
  | some i =>
    have hlt : i < syms.length := by
      unfold symIdx at hi
      exact (List.findIdx?_eq_some_iff_getElem.1 hi).1
    have hx : rd_T52 syms (i : Int) = syms[i] := by simp [rd_T52, List.getD_eq_getElem?_getD, List.getElem?_eq_getElem hlt]
    obtain ⟨hu, hc⟩ := hs _ (List.getElem_mem hlt)
    simp only [hx]
    rcases hc with hc | hc
    · exact ⟨(syms[i]).f1, 0, by rw [if_neg (by rw [hc]; simp), hc], hu, fun _ b => by rw [if_neg h1, if_neg h3, if_neg (by simp), hc]⟩
    · exact ⟨0, 7, by rw [if_pos (by simp [hc])], hz, fun h => by cases h⟩
def FixedAll (left : List S86) : Prop := ∀ p ∈ left, U32 p.f0 ∧ p.f1 = 0
theorem fixed_rd {left : List S86} (h : FixedAll left) (i : Int) (h0 : 0 ≤ i) (h1 : i < left.length) : U32 (rd_T86 left i).f0 ∧ (rd_T86 left i).f1 = 0 := by
  have hx : rd_T86 left i = left[i.toNat]'(by omega) := by simp [rd_T86, List.getD_eq_getElem?_getD, List.getElem?_eq_getElem (show i.toNat < left.length by omega)]
  rw [hx]
  exact h _ (List.getElem_mem _)
theorem fixed_snoc {left : List S86} (h : FixedAll left) (m : Nat) {v : Int} (hv : U32 v) : FixedAll (left.take m ++ [⟨v, 0⟩]) := by
  intro p hp
  rcases List.mem_append.1 hp with hp | hp
  · exact h p (List.mem_of_mem_take hp)
  · rw [List.mem_singleton] at hp
    subst hp
    exact ⟨hv, rfl⟩
/-- A node, early, behind Fixed parts. -/
theorem step_fixed (n : S47) (syms : List S52) (a : Int) (left : List S86) (hn : U32 n.f3) (hs : ∀ s ∈ syms, U32 s.f1 ∧ (s.f2 = 0 ∨ s.f2 = 1)) (hl : FixedAll left) :
    ∃ left' c, stepF 3 syms a true left n = some (left', c) ∧ FixedAll left' ∧ (c = 0 → ∀ b, stepF 3 syms b false left n = some (left', 0)) := by
  unfold stepF
  by_cases hbad : partsOf n.f0 < 0 ∨ (left.length : Int) < partsOf n.f0
  · exact ⟨left, 6, by rw [if_pos hbad], hl, fun h => by cases h⟩
  simp only [if_neg hbad]
  have hn1 : ¬ partsOf n.f0 < 0 := fun e => hbad (.inl e)
  have hn2 : ¬ (left.length : Int) < partsOf n.f0 := fun e => hbad (.inr e)
  have key : ∃ r c, nodeF 3 n left syms a true = some (r, 0, c) ∧ U32 r ∧ (c = 0 → ∀ b, nodeF 3 n left syms b false = some (r, 0, 0)) := by
    unfold nodeF
    rcases parts_cases n.f0 with hp | hp | hp | hp
    · omega
    · simp only [if_pos hp]
      obtain ⟨r, c, h1, h2, h3⟩ := plain_fixed n syms a hn hs
      exact ⟨r, c, by rw [h1], h2, fun hc b => by rw [h3 hc b]⟩
    · simp only [hp, if_neg (show ¬ ((1 : Int) = 0) by decide), if_true]
      obtain ⟨hu, h0⟩ := fixed_rd hl ((left.length : Int) - 1) (by omega) (by omega)
      rw [h0]
      exact turned_fixed _ _ _ hu
    · simp only [hp, if_neg (show ¬ ((2 : Int) = 0) by decide), if_neg (show ¬ ((2 : Int) = 1) by decide)]
      obtain ⟨hu, h0⟩ := fixed_rd hl ((left.length : Int) - 1) (by omega) (by omega)
      obtain ⟨hu2, h02⟩ := fixed_rd hl ((left.length : Int) - 2) (by omega) (by omega)
      rw [h0, h02]
      obtain ⟨v, c, h1, h2⟩ := joined_fixed n.f0 _ _ hu2 hu
      exact ⟨v, c, h1, h2, fun hc b => by rw [h1, hc]⟩
  obtain ⟨r, c, h1, h2, h3⟩ := key
  by_cases hc : c = 0
  · subst hc
    refine ⟨left.take (left.length - (partsOf n.f0).toNat) ++ [⟨r, 0⟩], 0, by rw [h1]; rfl, fixed_snoc hl _ h2, fun _ b => by rw [h3 rfl b]; rfl⟩
  · exact ⟨left, c, by rw [h1]; simp [hc], hl, fun h => absurd h hc⟩
theorem run_fixed (syms : List S52) (a : Int) (hs : ∀ s ∈ syms, U32 s.f1 ∧ (s.f2 = 0 ∨ s.f2 = 1)) : ∀ (l : List S47) (left : List S86), FixedAll left → (∀ n ∈ l, U32 n.f3) →
    ∃ left' f, runF 3 syms a true l left = some (left', f) ∧ FixedAll left' ∧ (f = none → ∀ b, runF 3 syms b false l left = some (left', none))
  | [], left, hl, _ => ⟨left, none, rfl, hl, fun _ _ => rfl⟩
  | n :: t, left, hl, hn => by
    obtain ⟨left1, c, h1, h2, h3⟩ := step_fixed n syms a left (hn n (List.mem_cons_self ..)) hs hl
    simp only [runF, h1, Option.bind_some]
    by_cases hc : c = 0
    · obtain ⟨left2, f, g1, g2, g3⟩ := run_fixed syms a hs t left1 h2 (fun m hm => hn m (List.mem_cons_of_mem _ hm))
      refine ⟨left2, f, by rw [if_pos hc]; exact g1, g2, fun hf b => ?_⟩
      rw [h3 hc b]
      simp only [Option.bind_some, if_true]
      exact g3 hf b
    · exact ⟨left1, some (n.f1, n.f2, c), by rw [if_neg hc], h2, fun hf => by cases hf⟩
/-- What is told early is told at every place, and is Fixed. -/
theorem value_early (l : List S47) (syms : List S52) (a : Int) (hs : ∀ s ∈ syms, U32 s.f1 ∧ (s.f2 = 0 ∨ s.f2 = 1)) (hn : ∀ n ∈ l, U32 n.f3) :
    ∃ v f, valueF 3 l syms a true = some (v, 0, f) ∧ U32 v ∧ (f ≠ none → v = 0) ∧ (f = none → ∀ b, valueF 3 l syms b false = some (v, 0, none)) := by
  have hz : U32 0 := by unfold U32; omega
  obtain ⟨left, f, h1, h2, h3⟩ := run_fixed syms a hs l [] (fun p hp => by cases hp) hn
  unfold valueF
  cases f with
  | some f => exact ⟨0, some f, by rw [h1]; rfl, hz, fun _ => rfl, fun h => by cases h⟩
  | none =>
    by_cases hlen : left.length = 1
    · obtain ⟨hu, h0⟩ := fixed_rd h2 0 (by omega) (by omega)
      refine ⟨(rd_T86 left 0).f0, none, by rw [h1]; simp [hlen, h0], hu, fun h => absurd rfl h, fun _ b => by rw [h3 rfl b]; simp [hlen, h0]⟩
    · exact ⟨0, some (if l.length = 0 then (0, 0, 6) else ((rd_T47 l ((l.length : Int) - 1)).f1, (rd_T47 l ((l.length : Int) - 1)).f2, 6)), by rw [h1]; simp [hlen], hz, fun _ => rfl, fun h => by cases h⟩
end Go.Proofs.YtgholjhcbhcicaaDoor.PAll
