/- EvalMoves, the plain law: Places that are moved by as much. -/
import Derived.Test.YtgholjhcbhcicaaDoorJoin
namespace Go.Proofs.YtgholjhcbhcicaaDoor.PAll
open Go.RowKit Go.Proofs.YtgholjhcbhcicaaDoorW.PrintWords Go.Proofs.YtgholjhcbhcicaaDoorW.PrintLast Go.Proofs.YtgholjhcbhcicaaDoorW.PrintMore Go.Proofs.YtgholjhcbhcicaaDoor.Errs Go.Maps
set_option linter.unusedVariables false
set_option linter.unusedSimpArgs false
/-- A symbol that is moved, if it is a Place. -/
def mvS (y : Int) (s : S52) : S52 := ⟨s.f0, (s.f1 + s.f2 * y) % 4294967296, s.f2⟩
def mvP (y : Int) (p : S86) : S86 := ⟨(p.f0 + p.f1 * y) % 4294967296, p.f1⟩
def mvR (y : Int) (r : Int × Int × Int) : Int × Int × Int := ((r.1 + r.2.1 * y) % 4294967296, r.2.1, r.2.2)
theorem u32_mod {x : Int} (h : U32 x) : x % 4294967296 = x := by
  unfold U32 at h
  omega
theorem symIdx_mv (y : Int) (l : List S52) (nm : ByteArray) : symIdx (l.map (mvS y)) nm = symIdx l nm := by
  unfold symIdx
  rw [List.findIdx?_map]
  rfl
theorem plainF_mv (y : Int) (n : S47) (syms : List S52) (place : Int) (hn : U32 n.f3) : plainF n (syms.map (mvS y)) ((place + y) % 4294967296) false = mvR y (plainF n syms place false) := by
  unfold plainF mvR
  split
  · simp [u32_mod hn]
  split
  · simp
  rw [symIdx_mv]
  cases hi : symIdx syms n.f4 with
  | none => simp
  | some i =>
    have hlt := symIdx_lt hi
    have hlt' : i < (syms.map (mvS y)).length := by simpa using hlt
    simp only [rd52_eq hlt, rd52_eq hlt', List.getElem_map]
    simp [mvS]
theorem turnT_mv (y kind v cls place place' : Int) (hc : cls = 0 ∨ cls = 1) (hv : U32 v) (h6 : kind ≠ 6) (h7 : kind ≠ 7) (h8 : kind ≠ 8) : turnT kind ((v + cls * y) % 4294967296) cls place' false = mvR y (turnT kind v cls place false) := by
  unfold turnT turnedF
  simp only [if_neg h6, if_neg h7, if_neg h8]
  rcases hc with rfl | rfl
  · have e : (v + 0 * y) % 4294967296 = v := by rw [Int.zero_mul, Int.add_zero]; exact u32_mod hv
    rw [e]
    have hb := bits_u32 BinOp.xor IntKind.u32.max v
    have hu : U32 (-v % 4294967296) := by unfold U32; omega
    by_cases h4 : kind = 4
    · simp [mvR, h4]
    · simp [mvR, h4, u32_mod hb]
  · simp [mvR]
theorem joinF_mv (y kind a ca b cb : Int) (hca : ca = 0 ∨ ca = 1) (hcb : cb = 0 ∨ cb = 1) (ha : U32 a) (hb : U32 b) : joinF kind ((a + ca * y) % 4294967296) ca ((b + cb * y) % 4294967296) cb = mvR y (joinF kind a ca b cb) := by
  have ea : (a + 0 * y) % 4294967296 = a := by rw [Int.zero_mul, Int.add_zero]; exact u32_mod ha
  have eb : (b + 0 * y) % 4294967296 = b := by rw [Int.zero_mul, Int.add_zero]; exact u32_mod hb
  have hbin := binF_u32 kind a b ha hb
  unfold joinF
  by_cases h9 : kind = 9
  · simp only [if_pos h9]
    rcases hca with rfl | rfl <;> rcases hcb with rfl | rfl <;> simp [mvR] <;> omega
  by_cases h10 : kind = 10
  · simp only [if_neg h9, if_pos h10]
    rcases hca with rfl | rfl <;> rcases hcb with rfl | rfl <;> simp [mvR] <;> omega
  simp only [if_neg h9, if_neg h10]
  rcases hca with rfl | rfl <;> rcases hcb with rfl | rfl
  · rw [ea, eb]
    simp only [Int.zero_ne_one, or_self, if_false]
    split
    · simp [mvR]
    · simp [mvR, u32_mod hbin]
  all_goals simp [mvR]
theorem rd86_map (y : Int) {l : List S86} {i : Int} (h0 : 0 ≤ i) (h : i < l.length) : rd_T86 (l.map (mvP y)) i = mvP y (rd_T86 l i) := by
  rw [rd86_eq h0 h, rd86_eq h0 (by simpa using h), List.getElem_map]
/-- A node, all Places moved. -/
theorem stepT_mv (y : Int) (syms : List S52) (place : Int) (left : List S86) (n : S47) (hn : U32 n.f3) (hp : U32 place) (hs : ∀ s ∈ syms, GoodS s) (hl : ∀ p ∈ left, GoodP p) (h6 : n.f0 ≠ 6) (h7 : n.f0 ≠ 7) (h8 : n.f0 ≠ 8) :
    stepT (syms.map (mvS y)) ((place + y) % 4294967296) false (left.map (mvP y)) n = ((stepT syms place false left n).1.map (mvP y), (stepT syms place false left n).2) := by
  unfold stepT
  rw [List.length_map]
  by_cases hbad : partsOf n.f0 < 0 ∨ (left.length : Int) < partsOf n.f0
  · rw [if_pos hbad, if_pos hbad]
  rw [if_neg hbad, if_neg hbad]
  have hn1 : ¬ partsOf n.f0 < 0 := fun e => hbad (.inl e)
  have hn2 : ¬ (left.length : Int) < partsOf n.f0 := fun e => hbad (.inr e)
  have key : nodeT n (left.map (mvP y)) (syms.map (mvS y)) ((place + y) % 4294967296) false = mvR y (nodeT n left syms place false) := by
    unfold nodeT
    rw [List.length_map]
    rcases parts_cases n.f0 with hq | hq | hq | hq
    · omega
    · simp only [if_pos hq]
      exact plainF_mv y n syms place hn
    · simp only [hq, if_neg (show ¬ ((1 : Int) = 0) by decide), if_true]
      have hg := good_rd hl ((left.length : Int) - 1) (by omega) (by omega)
      rw [rd86_map y (by omega) (by omega)]
      exact turnT_mv y _ _ _ _ _ hg.2 hg.1 h6 h7 h8
    · simp only [hq, if_neg (show ¬ ((2 : Int) = 0) by decide), if_neg (show ¬ ((2 : Int) = 1) by decide)]
      have hg := good_rd hl ((left.length : Int) - 1) (by omega) (by omega)
      have hg2 := good_rd hl ((left.length : Int) - 2) (by omega) (by omega)
      rw [rd86_map y (by omega) (by omega), rd86_map y (by omega) (by omega)]
      exact joinF_mv y _ _ _ _ _ hg2.2 hg.2 hg2.1 hg.1
  rw [key]
  generalize nodeT n left syms place false = r
  obtain ⟨v, c, k⟩ := r
  simp only [mvR]
  by_cases hk : k = 0
  · simp [hk, mvP, List.map_take]
  · simp [hk]
theorem runT_mv (y : Int) (syms : List S52) (place : Int) (hp : U32 place) (hs : ∀ s ∈ syms, GoodS s) : ∀ (l : List S47) (left : List S86), (∀ n ∈ l, U32 n.f3) → (∀ n ∈ l, n.f0 ≠ 6 ∧ n.f0 ≠ 7 ∧ n.f0 ≠ 8) → (∀ p ∈ left, GoodP p) →
    runT (syms.map (mvS y)) ((place + y) % 4294967296) false l (left.map (mvP y)) = ((runT syms place false l left).1.map (mvP y), (runT syms place false l left).2)
  | [], left, _, _, _ => rfl
  | n :: t, left, hn, hk, hl => by
    have h1 := stepT_mv y syms place left n (hn n (List.mem_cons_self ..)) hp hs hl (hk n (List.mem_cons_self ..)).1 (hk n (List.mem_cons_self ..)).2.1 (hk n (List.mem_cons_self ..)).2.2
    have h2 := (step_eq syms place false left n (hn n (List.mem_cons_self ..)) hp hs hl).2
    simp only [runT, h1]
    by_cases hz : (stepT syms place false left n).2 = 0
    · simp only [hz, if_true]
      exact runT_mv y syms place hp hs t _ (fun m hm => hn m (List.mem_cons_of_mem _ hm)) (fun m hm => hk m (List.mem_cons_of_mem _ hm)) h2
    · simp only [if_neg hz]
/-- What nodes come to, all Places moved. -/
theorem valueT_mv (y : Int) (l : List S47) (syms : List S52) (place : Int) (hp : U32 place) (hs : ∀ s ∈ syms, GoodS s) (hn : ∀ n ∈ l, U32 n.f3) (hk : ∀ n ∈ l, n.f0 ≠ 6 ∧ n.f0 ≠ 7 ∧ n.f0 ≠ 8) :
    valueT l (syms.map (mvS y)) ((place + y) % 4294967296) false = (((valueT l syms place false).1 + (valueT l syms place false).2.1 * y) % 4294967296, (valueT l syms place false).2.1, (valueT l syms place false).2.2) := by
  have h := runT_mv y syms place hp hs l [] hn hk (fun p hp => by cases hp)
  have hg := (run_eq syms place false hp hs l [] hn (fun p hp => by cases hp)).2
  simp only [List.map_nil] at h
  unfold valueT
  rw [h]
  generalize runT syms place false l [] = r at hg
  obtain ⟨left, f⟩ := r
  cases f with
  | some f => simp
  | none =>
    simp only [List.length_map]
    by_cases h1 : left.length = 1
    · simp only [if_pos h1]
      rw [rd86_map y (by omega) (by omega)]
      rfl
    · simp [if_neg h1]
theorem valueT_good (l : List S47) (syms : List S52) (place : Int) (early : Bool) (hp : U32 place) (hs : ∀ s ∈ syms, GoodS s) (hn : ∀ n ∈ l, U32 n.f3) : U32 (valueT l syms place early).1 ∧ ((valueT l syms place early).2.1 = 0 ∨ (valueT l syms place early).2.1 = 1) := by
  have hz : U32 0 := by unfold U32; omega
  have hg := (run_eq syms place early hp hs l [] hn (fun p hp => by cases hp)).2
  unfold valueT
  generalize runT syms place early l [] = r at hg
  obtain ⟨left, f⟩ := r
  cases f with
  | some f => exact ⟨hz, .inl rfl⟩
  | none =>
    show U32 (if left.length = 1 then _ else _ : Int × Int × Option (Int × Int × Int)).1 ∧ ((if left.length = 1 then _ else _ : Int × Int × Option (Int × Int × Int)).2.1 = 0 ∨ (if left.length = 1 then _ else _ : Int × Int × Option (Int × Int × Int)).2.1 = 1)
    by_cases h1 : left.length = 1
    · rw [if_pos h1]
      exact good_rd hg 0 (by decide) (by show (0 : Int) < (left.length : Int); omega)
    · rw [if_neg h1]
      exact ⟨hz, .inl rfl⟩
/-- The document's symbol that is moved. -/
def mvD (y : Int) (s : S49) : S49 := if s.f2 = 0 then s else ⟨s.f0, (s.f1 + y) % 4294967296, s.f2⟩
theorem symOf_mv (y : Int) (s : S49) (h : U32 s.f1) : symOf (mvD y s) = mvS y (symOf s) := by
  unfold mvD symOf mvS
  by_cases h0 : s.f2 = 0
  · simp [h0, u32_mod h]
  · simp [h0]
theorem syms_mv (y : Int) (l : List S49) (h : ∀ s ∈ l, U32 s.f1) : (l.map (mvD y)).map symOf = (l.map symOf).map (mvS y) := by
  rw [List.map_map, List.map_map]
  exact List.map_congr_left fun s hs => symOf_mv y s (h s hs)
end Go.Proofs.YtgholjhcbhcicaaDoor.PAll
