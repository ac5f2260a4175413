/- The pure side of the statements of layer 18 (span): what the printed functions answer. No machine in it. -/
import Derived.Test.YtbpihhggeakhoaaPTwox5
import Derived.Test.YtbpihhggeakhoaaPTwox6
import Derived.Test.YtbpihhggeakhoaaPTwox7
import Derived.Test.YtbpihhggeakhoaaPTwox8
namespace Go.Proofs.Ytbpihhggeakhoaa.PTwo
set_option linter.unusedSimpArgs false
set_option linter.unusedVariables false
open Go.RowKit Go.Proofs.YtbpihhggeakhoaaW.PrintWords Go.Proofs.YtbpihhggeakhoaaW.PrintLast Go.Proofs.YtbpihhggeakhoaaW.PrintMore

/-- The classes of an item. -/
def cls (kind op rs1 rs2 : Int) (n : Nat) (size : Int) (grow rvc : Bool) : List Int :=
  if kind = 4 then (if grow = true then (if rvc = true ∧ (op = 5 ∨ op = 6) ∧ rs2 = 0 ∧ 8 ≤ rs1 ∧ rs1 ≤ 15 then [2, 4, 8] else [4, 8]) else [4])
  else if kind = 5 then (if grow = true ∧ rvc = true then [2, 4] else [4])
  else if kind = 6 then (if grow = true then (if rvc = true then [2, 4, 8] else [4, 8]) else [8])
  else if kind = 9 then [(n : Int)]
  else if kind = 8 then (if size = 1 then [1] else if size = 2 then [2] else [4])
  else if kind = 2 ∨ kind = 3 then (if size = 2 then [2] else [4])
  else if kind = 7 then [8] else [0]

theorem sort_at (l r : List Int) (h : slices_Sort_int_int.f 20 l = some r) (k : Nat) : slices_Sort_int_int.f (k + 20) l = some r :=
  at_rounds (g := fun k => slices_Sort_int_int.f k l) (slices_Sort_int_int.mono l) (by omega) h
theorem sort842 (k : Nat) : slices_Sort_int_int.f (k + 20) [8, 4, 2] = some [2, 4, 8] := sort_at _ _ (by decide +kernel) k
theorem sort84 (k : Nat) : slices_Sort_int_int.f (k + 20) [8, 4] = some [4, 8] := sort_at _ _ (by decide +kernel) k
theorem sort42 (k : Nat) : slices_Sort_int_int.f (k + 20) [4, 2] = some [2, 4] := sort_at _ _ (by decide +kernel) k
theorem sort4 (k : Nat) : slices_Sort_int_int.f (k + 20) [4] = some [4] := sort_at _ _ (by decide +kernel) k
theorem sort8 (k : Nat) : slices_Sort_int_int.f (k + 20) [8] = some [8] := sort_at _ _ (by decide +kernel) k
theorem sort0 (k : Nat) : slices_Sort_int_int.f (k + 20) [] = some [] := sort_at _ _ (by decide +kernel) k

theorem slim_eq (op rd rs1 rs2 im : Int) : span_slim.f op rd rs1 rs2 im = some (decide ((op = 5 ∨ op = 6) ∧ rs2 = 0 ∧ 8 ≤ rs1 ∧ rs1 ≤ 15)) := by
  unfold span_slim.f
  by_cases h5 : op = 5
  · by_cases h2 : rs2 = 0 <;> by_cases h8 : rs1 ≥ 8 <;> simp [h5, h2, h8] <;> omega
  · by_cases h6 : op = 6
    · by_cases h2 : rs2 = 0 <;> by_cases h8 : rs1 ≥ 8 <;> simp [h6, h2, h8] <;> omega
    · simp [h5, h6]

theorem grown4 (k : Nat) (a0_0 a0_1 a0_2 : Int) (a0_3 : ByteArray) (a0_4 a0_5 a0_6 a0_7 a0_8 : Int) (a0_9 : ByteArray) (a0_10 : Int) (l0_11 : List S86) (a0_12 : Int) (a0_13 a0_14 : Bool) (h : a0_0 = 4) : span_grown.f (k + 20) a0_0 a0_1 a0_2 a0_3 a0_4 a0_5 a0_6 a0_7 a0_8 a0_9 a0_10 l0_11 a0_12 a0_13 a0_14 = some (cls a0_0 a0_4 a0_6 a0_7 a0_3.size a0_10 a0_13 a0_14) := by
  subst h
  unfold span_grown.f cls
  cases a0_13 <;> cases a0_14 <;> simp [slim_eq, sort842, sort84, sort4]
  split <;> simp_all [sort842, sort84]
theorem grown5 (k : Nat) (a0_0 a0_1 a0_2 : Int) (a0_3 : ByteArray) (a0_4 a0_5 a0_6 a0_7 a0_8 : Int) (a0_9 : ByteArray) (a0_10 : Int) (l0_11 : List S86) (a0_12 : Int) (a0_13 a0_14 : Bool) (h : a0_0 = 5) : span_grown.f (k + 20) a0_0 a0_1 a0_2 a0_3 a0_4 a0_5 a0_6 a0_7 a0_8 a0_9 a0_10 l0_11 a0_12 a0_13 a0_14 = some (cls a0_0 a0_4 a0_6 a0_7 a0_3.size a0_10 a0_13 a0_14) := by
  subst h
  unfold span_grown.f cls
  cases a0_13 <;> cases a0_14 <;> simp [sort42, sort4]
theorem grown6 (k : Nat) (a0_0 a0_1 a0_2 : Int) (a0_3 : ByteArray) (a0_4 a0_5 a0_6 a0_7 a0_8 : Int) (a0_9 : ByteArray) (a0_10 : Int) (l0_11 : List S86) (a0_12 : Int) (a0_13 a0_14 : Bool) (h : a0_0 = 6) : span_grown.f (k + 20) a0_0 a0_1 a0_2 a0_3 a0_4 a0_5 a0_6 a0_7 a0_8 a0_9 a0_10 l0_11 a0_12 a0_13 a0_14 = some (cls a0_0 a0_4 a0_6 a0_7 a0_3.size a0_10 a0_13 a0_14) := by
  subst h
  unfold span_grown.f cls
  cases a0_13 <;> cases a0_14 <;> simp [sort842, sort84, sort8]
theorem cls_prog (k : Nat) (a0_0 a0_1 a0_2 : Int) (a0_3 : ByteArray) (a0_4 a0_5 a0_6 a0_7 a0_8 : Int) (a0_9 : ByteArray) (a0_10 : Int) (l0_11 : List S86) (a0_12 : Int) (a0_13 a0_14 : Bool) : span_Classes.f (k + 22) a0_0 a0_1 a0_2 a0_3 a0_4 a0_5 a0_6 a0_7 a0_8 a0_9 a0_10 l0_11 a0_12 a0_13 a0_14 = some (cls a0_0 a0_4 a0_6 a0_7 a0_3.size a0_10 a0_13 a0_14) := by
  unfold span_Classes.f
  by_cases h4 : a0_0 = 4
  · simp [h4, span_Classes.j0]
    rw [grown4 (k + 1) _ _ _ _ _ _ _ _ _ _ _ _ _ _ _ rfl]
  by_cases h5 : a0_0 = 5
  · simp [h5, span_Classes.j0]
    rw [grown5 (k + 1) _ _ _ _ _ _ _ _ _ _ _ _ _ _ _ rfl]
  by_cases h6 : a0_0 = 6
  · simp [h6, span_Classes.j0]
    rw [grown6 (k + 1) _ _ _ _ _ _ _ _ _ _ _ _ _ _ _ rfl]
  simp only [if_neg h4, if_neg h5, cls, if_neg h6, span_Classes.j0]
  by_cases h9 : a0_0 = 9
  · simp [h9]
  by_cases h8 : a0_0 = 8
  · simp [h8]; split <;> simp_all; split <;> simp_all
  by_cases h2 : a0_0 = 2
  · simp [h2, span_Classes.j1]; split <;> simp_all
  by_cases h3 : a0_0 = 3
  · simp [h3, span_Classes.j1]; split <;> simp_all
  by_cases h7 : a0_0 = 7
  · simp [h7, span_Classes.j1]
  simp [h4, h5, h6, h9, h8, h2, h3, h7, span_Classes.j1]
theorem cls_ref (k : Nat) (a0_0 a0_1 a0_2 : Int) (a0_3 : ByteArray) (a0_4 a0_5 a0_6 a0_7 a0_8 : Int) (a0_9 : ByteArray) (a0_10 : Int) (l0_11 : List S86) (a0_12 : Int) (a0_13 a0_14 : Bool) : typecaseref18_Classes.f (k + 2) a0_0 a0_1 a0_2 a0_3 a0_4 a0_5 a0_6 a0_7 a0_8 a0_9 a0_10 l0_11 a0_12 a0_13 a0_14 = some (cls a0_0 a0_4 a0_6 a0_7 a0_3.size a0_10 a0_13 a0_14) := by
  unfold typecaseref18_Classes.f cls
  by_cases h4 : a0_0 = 4
  · cases a0_13 <;> cases a0_14 <;> by_cases h5 : a0_4 = 5 <;> by_cases h6 : a0_4 = 6 <;> by_cases h7 : a0_7 = 0 <;> by_cases h8 : a0_6 ≥ 8 <;> simp [h4, h5, h6, h7, h8, typecaseref18_Classes.j0] <;> (try omega)
    all_goals (by_cases h9 : a0_6 ≤ 15 <;> simp [h9])
  by_cases h5 : a0_0 = 5
  · cases a0_13 <;> cases a0_14 <;> simp [h5]
  by_cases h6 : a0_0 = 6
  · cases a0_13 <;> cases a0_14 <;> simp [h6]
  by_cases h2 : a0_0 = 2
  · simp [h2, typecaseref18_Classes.j1]; split <;> simp_all
  by_cases h3 : a0_0 = 3
  · simp [h3, typecaseref18_Classes.j1]; split <;> simp_all
  by_cases h8 : a0_0 = 8
  · simp [h8, typecaseref18_Classes.j1]; split <;> simp_all; split <;> simp_all
  by_cases h9 : a0_0 = 9
  · simp [h9, typecaseref18_Classes.j1]
  by_cases h7 : a0_0 = 7
  · simp [h7, typecaseref18_Classes.j1]
  simp [h4, h5, h6, h9, h8, h2, h3, h7, typecaseref18_Classes.j1]

/-! ### What the classes are like -/
theorem cls_len (kind op rs1 rs2 : Int) (n : Nat) (size : Int) (grow rvc : Bool) : 1 ≤ (cls kind op rs1 rs2 n size grow rvc).length ∧ (cls kind op rs1 rs2 n size grow rvc).length ≤ 3 := by
  unfold cls
  repeat' split
  all_goals simp

/-! ### Contains -/
theorem wrap_in (i : Int) (h0 : 0 ≤ i) (h1 : i < 100) : wrap64 (i + 1) = i + 1 := by unfold wrap64; omega
theorem index_from (xs : List Int) (v : Int) (hl : xs.length ≤ 50) (d : Nat) : ∀ (k i : Nat), i + d = xs.length → d < k →
    ∃ r : Int, slices_Index_int_int.l0 k xs v (xs.length : Int) (i : Int) = some r ∧ (0 ≤ r ↔ v ∈ xs.drop i) := by
  induction d with
  | zero =>
    intro k i h hk
    obtain ⟨k, rfl⟩ : ∃ m, k = m + 1 := ⟨k - 1, by omega⟩
    refine ⟨-1, ?_, ?_⟩
    · simp only [slices_Index_int_int.l0]
      rw [if_neg (by omega)]
    · rw [List.drop_of_length_le (by omega)]
      simp
  | succ d ih =>
    intro k i h hk
    obtain ⟨k, rfl⟩ : ∃ m, k = m + 1 := ⟨k - 1, by omega⟩
    have hi : i < xs.length := by omega
    have e : rd xs (i : Int) = xs[i] := by simp [rd, List.getD_eq_getElem?_getD, List.getElem?_eq_getElem hi]
    have hd := List.drop_eq_getElem_cons hi
    by_cases hv : v = xs[i]
    · refine ⟨i, ?_, ?_⟩
      · simp only [slices_Index_int_int.l0]
        rw [if_pos (by omega), if_pos (by omega), if_pos (by omega), e, if_pos hv]
      · rw [hd]
        exact ⟨fun _ => List.mem_cons.2 (.inl hv), fun _ => by omega⟩
    · obtain ⟨r, hr, hq⟩ := ih k (i + 1) (by omega) (by omega)
      refine ⟨r, ?_, ?_⟩
      · simp only [slices_Index_int_int.l0]
        rw [if_pos (by omega), if_pos (by omega), if_pos (by omega), e, if_neg hv, wrap_in _ (by omega) (by omega)]
        exact hr
      · rw [hd, List.mem_cons, hq]
        exact ⟨.inr, fun h => h.resolve_left hv⟩
theorem contains_eq (xs : List Int) (v : Int) (hl : xs.length ≤ 3) (k : Nat) : slices_Contains_int_int.f (k + 4) xs v = some (decide (v ∈ xs)) := by
  obtain ⟨r, h, hq⟩ := index_from xs v (by omega) xs.length (k + 4) 0 (by omega) (by omega)
  unfold slices_Contains_int_int.f slices_Index_int_int.f
  rw [show ((0 : Nat) : Int) = 0 from rfl] at h
  rw [h]
  simp only [List.drop_zero, Option.bind_some] at hq ⊢
  rw [decide_eq_decide.2 (show r ≥ 0 ↔ v ∈ xs from hq)]

/-! ### Fits -/
theorem fits9 (v : Int) (h0 : -2147483648 ≤ v) (h1 : v ≤ 2147483647) : word_Fits.f v 9 = some (decide (-256 ≤ v ∧ v < 256)) := by
  simp [word_Fits.f, word_Sign.f, word_within_int.f, mn, mx, shl, shr, IntKind.wrap, IntKind.bits, IntKind.signed, wrap32, wrap64]
  rw [Bool.eq_iff_iff]; simp
  omega
theorem fits12 (v : Int) (h0 : -2147483648 ≤ v) (h1 : v ≤ 2147483647) : word_Fits.f v 12 = some (decide (-2048 ≤ v ∧ v < 2048)) := by
  simp [word_Fits.f, word_Sign.f, word_within_int.f, mn, mx, shl, shr, IntKind.wrap, IntKind.bits, IntKind.signed, wrap32, wrap64]
  rw [Bool.eq_iff_iff]; simp
  omega
theorem fits13 (v : Int) (h0 : -2147483648 ≤ v) (h1 : v ≤ 2147483647) : word_Fits.f v 13 = some (decide (-4096 ≤ v ∧ v < 4096)) := by
  simp [word_Fits.f, word_Sign.f, word_within_int.f, mn, mx, shl, shr, IntKind.wrap, IntKind.bits, IntKind.signed, wrap32, wrap64]
  rw [Bool.eq_iff_iff]; simp
  omega
theorem fits21 (v : Int) (h0 : -2147483648 ≤ v) (h1 : v ≤ 2147483647) : word_Fits.f v 21 = some (decide (-1048576 ≤ v ∧ v < 1048576)) := by
  simp [word_Fits.f, word_Sign.f, word_within_int.f, mn, mx, shl, shr, IntKind.wrap, IntKind.bits, IntKind.signed, wrap32, wrap64]
  rw [Bool.eq_iff_iff]; simp
  omega

/-! ### Reaches -/
theorem tmod2 (a : Int) : (Int.tmod a 2 = 0) ↔ a % 2 = 0 := by
  rw [Int.tmod_eq_emod]
  split <;> omega
/-- The distances that a class of a kind has room for. -/
def rng (kind size far : Int) : Bool :=
  if kind = 4 then (if size = 2 then decide (-256 ≤ far ∧ far < 256) else if size = 4 then decide (-4096 ≤ far ∧ far < 4096) else decide (-1048572 ≤ far ∧ far < 1048580))
  else (if size = 2 then decide (-2048 ≤ far ∧ far < 2048) else if size = 4 then decide (-1048576 ≤ far ∧ far < 1048576) else true)
def reach (kind : Int) (cl : List Int) (size far : Int) : Bool :=
  decide (far % 2 = 0) && decide (kind = 4 ∨ kind = 5 ∨ kind = 6) && decide (size ∈ cl) && rng kind size far
theorem fits21w (v : Int) (h0 : -2147483648 ≤ v) (h1 : v ≤ 2147483647) : word_Fits.f (wrap32 (v - 4)) 21 = some (decide (-1048572 ≤ v ∧ v < 1048580)) := by
  rw [fits21 _ (by unfold wrap32; omega) (by unfold wrap32; omega)]
  congr 1
  rw [decide_eq_decide]
  unfold wrap32
  omega
theorem reach_prog0 (k : Nat) (a0_0 a0_1 a0_2 : Int) (a0_3 : ByteArray) (a0_4 a0_5 a0_6 a0_7 a0_8 : Int) (a0_9 : ByteArray) (a0_10 : Int) (l0_11 : List S86) (a0_12 : Int) (a0_13 a0_14 : Bool) (size far : Int) (h0 : -2147483648 ≤ far) (h1 : far ≤ 2147483647) (b : Bool) (hk : (b = true) ↔ (a0_0 = 4 ∨ a0_0 = 5 ∨ a0_0 = 6)) :
    span_Reaches.j0 (k + 23) size far b a0_0 a0_1 a0_2 a0_3 a0_4 a0_5 a0_6 a0_7 a0_8 a0_9 a0_10 l0_11 a0_12 a0_13 a0_14 = some (decide (a0_0 = 4 ∨ a0_0 = 5 ∨ a0_0 = 6) && decide (size ∈ (cls a0_0 a0_4 a0_6 a0_7 a0_3.size a0_10 a0_13 a0_14)) && rng a0_0 size far) := by
  simp only [span_Reaches.j0]
  cases b with
  | false =>
    have hn : ¬ (a0_0 = 4 ∨ a0_0 = 5 ∨ a0_0 = 6) := fun h => by have := hk.2 h; cases this
    rw [if_neg (by decide), decide_eq_false hn]
    rfl
  | true =>
    have hy := hk.1 rfl
    rw [if_pos rfl, cls_prog k, decide_eq_true hy]
    simp only [Option.bind_some, Bool.true_and]
    rw [show k + 22 = (k + 18) + 4 by omega, contains_eq _ _ (cls_len _ _ _ _ _ _ _ _).2]
    simp only [Option.bind_some]
    by_cases hm : size ∈ (cls a0_0 a0_4 a0_6 a0_7 a0_3.size a0_10 a0_13 a0_14)
    · rw [decide_eq_true hm, if_pos rfl]
      unfold rng
      simp only [Bool.true_and]
      by_cases h4 : a0_0 = 4
      · rw [if_pos h4, if_pos h4, fits9 _ h0 h1, fits13 _ h0 h1, fits21w _ h0 h1]
        by_cases h2 : size = 2
        · rw [if_pos h2, if_pos h2]; rfl
        · rw [if_neg h2, if_neg h2]
          by_cases h3 : size = 4
          · rw [if_pos h3, if_pos h3]; rfl
          · rw [if_neg h3, if_neg h3]; rfl
      · rw [if_neg h4, if_neg h4, fits12 _ h0 h1, fits21 _ h0 h1]
        by_cases h2 : size = 2
        · rw [if_pos h2, if_pos h2]; rfl
        · rw [if_neg h2, if_neg h2]
          by_cases h3 : size = 4
          · rw [if_pos h3, if_pos h3]; rfl
          · rw [if_neg h3, if_neg h3]
    · rw [decide_eq_false hm, if_neg (by decide)]
      rfl
theorem reach_prog (k : Nat) (a0_0 a0_1 a0_2 : Int) (a0_3 : ByteArray) (a0_4 a0_5 a0_6 a0_7 a0_8 : Int) (a0_9 : ByteArray) (a0_10 : Int) (l0_11 : List S86) (a0_12 : Int) (a0_13 a0_14 : Bool) (size far : Int) (h0 : -2147483648 ≤ far) (h1 : far ≤ 2147483647) :
    span_Reaches.f (k + 23) a0_0 a0_1 a0_2 a0_3 a0_4 a0_5 a0_6 a0_7 a0_8 a0_9 a0_10 l0_11 a0_12 a0_13 a0_14 size far = some (reach a0_0 (cls a0_0 a0_4 a0_6 a0_7 a0_3.size a0_10 a0_13 a0_14) size far) := by
  unfold span_Reaches.f reach
  simp only [tmod2]
  by_cases he : far % 2 = 0
  · rw [if_pos he, decide_eq_true he]
    simp only [Bool.true_and]
    by_cases h4 : a0_0 = 4
    · rw [if_pos h4]
      exact reach_prog0 k a0_0 a0_1 a0_2 a0_3 a0_4 a0_5 a0_6 a0_7 a0_8 a0_9 a0_10 l0_11 a0_12 a0_13 a0_14 size far h0 h1 _ (by simp [h4])
    by_cases h5 : a0_0 = 5
    · rw [if_neg h4, if_pos h5]
      exact reach_prog0 k a0_0 a0_1 a0_2 a0_3 a0_4 a0_5 a0_6 a0_7 a0_8 a0_9 a0_10 l0_11 a0_12 a0_13 a0_14 size far h0 h1 _ (by simp [h5])
    · rw [if_neg h4, if_neg h5]
      exact reach_prog0 k a0_0 a0_1 a0_2 a0_3 a0_4 a0_5 a0_6 a0_7 a0_8 a0_9 a0_10 l0_11 a0_12 a0_13 a0_14 size far h0 h1 _ (by simp [h4, h5])
  · rw [if_neg he, decide_eq_false he]
    rfl

theorem cls_few (kind op rs1 rs2 : Int) (n : Nat) (sz : Int) (grow rvc : Bool) (size : Int) (h : size ∈ cls kind op rs1 rs2 n sz grow rvc) (hk : kind = 4 ∨ kind = 5 ∨ kind = 6) : size = 2 ∨ size = 4 ∨ size = 8 := by
  unfold cls at h
  rcases hk with rfl | rfl | rfl
  · revert h; repeat' split
    all_goals (simp; try omega)
  · revert h; repeat' split
    all_goals (simp; try omega)
  · revert h; repeat' split
    all_goals (simp; try omega)
/-! ### Next -/
/-- The least of some that is greater than a number. -/
def nxt : List Int → Int → Int × Bool
  | [], s => (s, false)
  | x :: l, s => if s < x then (x, true) else nxt l s
theorem next_ref0 (xs : List Int) (s : Int) (hl : xs.length ≤ 50) (d : Nat) : ∀ (k i : Nat), i + d = xs.length → d < k →
    typecaseref18_Next.l0 k s xs (i : Int) = some (nxt (xs.drop i) s) := by
  induction d with
  | zero =>
    intro k i h hk
    obtain ⟨k, rfl⟩ : ∃ m, k = m + 1 := ⟨k - 1, by omega⟩
    simp only [typecaseref18_Next.l0]
    rw [if_neg (by omega), List.drop_of_length_le (by omega)]
    rfl
  | succ d ih =>
    intro k i h hk
    obtain ⟨k, rfl⟩ : ∃ m, k = m + 1 := ⟨k - 1, by omega⟩
    have hi : i < xs.length := by omega
    have e : rd xs (i : Int) = xs[i] := by simp [rd, List.getD_eq_getElem?_getD, List.getElem?_eq_getElem hi]
    simp only [typecaseref18_Next.l0]
    rw [if_pos (by omega), if_pos (by omega), e, List.drop_eq_getElem_cons hi]
    unfold nxt
    by_cases hv : xs[i] > s
    · rw [if_pos hv, if_pos hv]
    · rw [if_neg hv, if_neg hv, wrap_in _ (by omega) (by omega), show (i : Int) + 1 = ((i + 1 : Nat) : Int) by omega]
      exact ih k (i + 1) (by omega) (by omega)
/-- Rising lists. -/
def Rises : List Int → Prop
  | [] => True
  | x :: l => (∀ y ∈ l, x < y) ∧ Rises l
theorem least_from (xs : List Int) (s : Int) (hl : xs.length ≤ 50) (d : Nat) : ∀ (k i : Nat) (b : Int) (ok : Bool), i + d = xs.length → d < k → Rises (xs.drop i) → (ok = true → ∀ y ∈ xs.drop i, b < y) → (ok = false → b = s) →
    span_least_int.l0 k s b ok xs (xs.length : Int) (i : Int) = some (if ok = true then (b, true) else nxt (xs.drop i) s) := by
  induction d with
  | zero =>
    intro k i b ok h hk _ _ hs
    obtain ⟨k, rfl⟩ : ∃ m, k = m + 1 := ⟨k - 1, by omega⟩
    simp only [span_least_int.l0]
    rw [if_neg (by omega), List.drop_of_length_le (by omega)]
    cases ok with
    | true => simp
    | false => simp [nxt, hs rfl]
  | succ d ih =>
    intro k i b ok h hk hr hb hs
    obtain ⟨k, rfl⟩ : ∃ m, k = m + 1 := ⟨k - 1, by omega⟩
    have hi : i < xs.length := by omega
    have e : rd xs (i : Int) = xs[i] := by simp [rd, List.getD_eq_getElem?_getD, List.getElem?_eq_getElem hi]
    have hd := List.drop_eq_getElem_cons hi
    rw [hd] at hr hb ⊢
    simp only [span_least_int.l0]
    rw [if_pos (by omega), if_pos (by omega), if_pos (by omega), e, wrap_in _ (by omega) (by omega), show (i : Int) + 1 = ((i + 1 : Nat) : Int) by omega]
    have hr1 : (∀ y ∈ xs.drop (i + 1), xs[i] < y) ∧ Rises (xs.drop (i + 1)) := hr
    have hm : ∀ {y}, y ∈ xs.drop (i + 1) → y ∈ xs[i] :: xs.drop (i + 1) := fun h => List.mem_cons_of_mem _ h
    cases ok with
    | true =>
      have hx := hb rfl xs[i] List.mem_cons_self
      rw [if_pos rfl]
      by_cases hv : xs[i] > s
      · rw [if_pos hv, if_pos rfl, if_neg (by omega), ih k (i + 1) b true (by omega) (by omega) hr1.2 (fun _ y hy => hb rfl y (hm hy)) (fun h => by cases h), if_pos rfl]
      · rw [if_neg hv, ih k (i + 1) b true (by omega) (by omega) hr1.2 (fun _ y hy => hb rfl y (hm hy)) (fun h => by cases h), if_pos rfl, if_pos rfl]
    | false =>
      unfold nxt
      by_cases hv : xs[i] > s
      · simp only [if_pos hv, if_neg (show ¬ (false = true) by decide)]
        rw [ih k (i + 1) _ true (by omega) (by omega) hr1.2 (fun _ y hy => hr1.1 y hy) (fun h => by cases h), if_pos rfl]
      · simp only [if_neg hv, if_neg (show ¬ (false = true) by decide)]
        rw [ih k (i + 1) b false (by omega) (by omega) hr1.2 (fun h => by cases h) hs, if_neg (by decide)]
theorem cls_rises (kind op rs1 rs2 : Int) (n : Nat) (size : Int) (grow rvc : Bool) : Rises (cls kind op rs1 rs2 n size grow rvc) := by
  unfold cls
  repeat' split
  all_goals simp [Rises]
theorem next_prog (k : Nat) (a0_0 a0_1 a0_2 : Int) (a0_3 : ByteArray) (a0_4 a0_5 a0_6 a0_7 a0_8 : Int) (a0_9 : ByteArray) (a0_10 : Int) (l0_11 : List S86) (a0_12 : Int) (a0_13 a0_14 : Bool) (size : Int) : span_Next.f (k + 22) a0_0 a0_1 a0_2 a0_3 a0_4 a0_5 a0_6 a0_7 a0_8 a0_9 a0_10 l0_11 a0_12 a0_13 a0_14 size = some (nxt (cls a0_0 a0_4 a0_6 a0_7 a0_3.size a0_10 a0_13 a0_14) size) := by
  unfold span_Next.f span_least_int.f
  rw [cls_prog k]
  simp only [Option.bind_some]
  have hl := cls_len a0_0 a0_4 a0_6 a0_7 a0_3.size a0_10 a0_13 a0_14
  have h := least_from (cls a0_0 a0_4 a0_6 a0_7 a0_3.size a0_10 a0_13 a0_14) size (by omega) ((cls a0_0 a0_4 a0_6 a0_7 a0_3.size a0_10 a0_13 a0_14)).length (k + 22) 0 size false (by omega) (by omega) (by rw [List.drop_zero]; exact cls_rises _ _ _ _ _ _ _ _) (fun h => by cases h) (fun _ => rfl)
  rw [show ((0 : Nat) : Int) = 0 from rfl, List.drop_zero, if_neg (by decide)] at h
  rw [h]
  rfl
theorem next_ref (k : Nat) (a0_0 a0_1 a0_2 : Int) (a0_3 : ByteArray) (a0_4 a0_5 a0_6 a0_7 a0_8 : Int) (a0_9 : ByteArray) (a0_10 : Int) (l0_11 : List S86) (a0_12 : Int) (a0_13 a0_14 : Bool) (size : Int) : typecaseref18_Next.f (k + 22) a0_0 a0_1 a0_2 a0_3 a0_4 a0_5 a0_6 a0_7 a0_8 a0_9 a0_10 l0_11 a0_12 a0_13 a0_14 size = some (nxt (cls a0_0 a0_4 a0_6 a0_7 a0_3.size a0_10 a0_13 a0_14) size) := by
  unfold typecaseref18_Next.f
  rw [show k + 22 = (k + 20) + 2 by omega, cls_ref (k + 20)]
  simp only [Option.bind_some]
  have hl := cls_len a0_0 a0_4 a0_6 a0_7 a0_3.size a0_10 a0_13 a0_14
  have h := next_ref0 (cls a0_0 a0_4 a0_6 a0_7 a0_3.size a0_10 a0_13 a0_14) size (by omega) ((cls a0_0 a0_4 a0_6 a0_7 a0_3.size a0_10 a0_13 a0_14)).length (k + 22) 0 (by omega) (by omega)
  rw [show ((0 : Nat) : Int) = 0 from rfl, List.drop_zero] at h
  exact h

/-! ### The same numbers -/
theorem ints_from (xs : List Int) (hl : xs.length ≤ 50) (d : Nat) : ∀ (k i : Nat), i + d = xs.length → d < k →
    typecaselaw18_ints.l0 k xs xs (i : Int) = some true := by
  induction d with
  | zero =>
    intro k i h hk
    obtain ⟨k, rfl⟩ : ∃ m, k = m + 1 := ⟨k - 1, by omega⟩
    simp only [typecaselaw18_ints.l0]
    rw [if_neg (by omega)]
  | succ d ih =>
    intro k i h hk
    obtain ⟨k, rfl⟩ : ∃ m, k = m + 1 := ⟨k - 1, by omega⟩
    simp only [typecaselaw18_ints.l0]
    rw [if_pos (by omega), if_pos (by omega), if_pos (by omega), if_pos trivial, wrap_in _ (by omega) (by omega), show (i : Int) + 1 = ((i + 1 : Nat) : Int) by omega]
    exact ih k (i + 1) (by omega) (by omega)
theorem ints_same (xs : List Int) (hl : xs.length ≤ 3) (k : Nat) : typecaselaw18_ints.f (k + 4) xs xs = some true := by
  unfold typecaselaw18_ints.f
  rw [if_pos rfl]
  exact ints_from xs (by omega) xs.length (k + 4) 0 (by omega) (by omega)

/-! ### The statements -/
theorem awake_true (k : Nat) : typecaselaw18_awake.f (k + 23) = some true := by
  unfold typecaselaw18_awake.f
  rw [show k + 23 = (k + 1) + 22 by omega, cls_prog (k + 1)]
  simp only [Option.bind_some]
  rw [show cls 4 5 8 0 (⟨#[]⟩ : ByteArray).size 0 true true = [2, 4, 8] from by decide, show k + 1 + 22 = (k + 19) + 4 by omega, ints_same _ (by decide)]
  simp only [Option.bind_some]
  rw [if_pos trivial, show k + 19 + 4 = k + 23 by omega, reach_prog k _ _ _ _ _ _ _ _ _ _ _ _ _ _ _ _ _ (by omega) (by omega), reach_prog k _ _ _ _ _ _ _ _ _ _ _ _ _ _ _ _ _ (by omega) (by omega)]
  simp only [Option.bind_some]
  rw [show reach 4 (cls 4 5 8 0 (⟨#[]⟩ : ByteArray).size 0 true true) 2 (-256) = true from by decide, show reach 4 (cls 4 5 8 0 (⟨#[]⟩ : ByteArray).size 0 true true) 2 256 = false from by decide]
  rfl
theorem nxt_mem (l : List Int) (s n : Int) (h : nxt l s = (n, true)) : n ∈ l ∧ s < n := by
  induction l with
  | nil => simp [nxt] at h
  | cons x l ih =>
    unfold nxt at h
    by_cases hs : s < x
    · rw [if_pos hs] at h
      cases h
      exact ⟨List.mem_cons_self, hs⟩
    · rw [if_neg hs] at h
      exact ⟨List.mem_cons_of_mem _ (ih h).1, (ih h).2⟩
theorem reach_next (kind : Int) (cl : List Int) (s n far : Int) (hw : ∀ x, x ∈ cl → (kind = 4 ∨ kind = 5 ∨ kind = 6) → x = 2 ∨ x = 4 ∨ x = 8) (hr : reach kind cl s far = true) (hn : nxt cl s = (n, true)) : reach kind cl n far = true := by
  obtain ⟨h1, h2⟩ := nxt_mem _ _ _ hn
  unfold reach at hr ⊢
  simp only [Bool.and_eq_true, decide_eq_true_eq] at hr ⊢
  obtain ⟨⟨⟨he, hk⟩, hm⟩, hg⟩ := hr
  refine ⟨⟨⟨he, hk⟩, h1⟩, ?_⟩
  have a := hw s hm hk
  have b := hw n h1 hk
  unfold rng at hg ⊢
  by_cases h4 : kind = 4
  · simp only [if_pos h4] at hg ⊢
    rcases a with rfl | rfl | rfl <;> rcases b with rfl | rfl | rfl <;> simp at hg h2 ⊢ <;> omega
  · simp only [if_neg h4] at hg ⊢
    rcases a with rfl | rfl | rfl <;> rcases b with rfl | rfl | rfl <;> simp at hg h2 ⊢ <;> omega
theorem reach_less (kind : Int) (cl : List Int) (s far less : Int) (hr : reach kind cl s far = true) (he : less % 2 = 0) (hb : (0 ≤ far ∧ 0 ≤ less ∧ less ≤ far) ∨ (far < 0 ∧ less ≤ 0 ∧ far ≤ less)) : reach kind cl s less = true := by
  unfold reach at hr ⊢
  simp only [Bool.and_eq_true, decide_eq_true_eq] at hr ⊢
  obtain ⟨⟨⟨_, hk⟩, hm⟩, hg⟩ := hr
  refine ⟨⟨⟨he, hk⟩, hm⟩, ?_⟩
  unfold rng at hg ⊢
  revert hg
  repeat' split
  all_goals (simp; try omega)
theorem nxt_rise (l : List Int) (hr : Rises l) : ∀ (i : Nat) (hi : i < l.length), nxt l l[i] = if h : i + 1 < l.length then (l[i + 1], true) else (l[i], false) := by
  induction l with
  | nil => intro i hi; cases hi
  | cons x l ih =>
    intro i hi
    cases i with
    | zero =>
      unfold nxt
      simp only [List.getElem_cons_zero]
      rw [if_neg (by omega)]
      cases l with
      | nil => simp [nxt]
      | cons y l =>
        have hxy : x < y := hr.1 y (by simp)
        unfold nxt
        rw [if_pos hxy, dif_pos (by simp)]
        simp
    | succ i =>
      have hi' : i < l.length := by simpa using hi
      have hx : x < l[i] := hr.1 _ (List.getElem_mem _)
      unfold nxt
      simp only [List.getElem_cons_succ]
      rw [if_neg (by omega), ih hr.2 i hi']
      by_cases h : i + 1 < l.length
      · rw [dif_pos h, dif_pos (by simpa using h)]
      · rw [dif_neg h, dif_neg (by simpa using h)]
theorem rise_step (l : List Int) (hr : Rises l) : ∀ (i : Nat) (hi : i + 1 < l.length), l[i] < l[i + 1] := by
  induction l with
  | nil => intro i hi; cases hi
  | cons x l ih =>
    intro i hi
    cases i with
    | zero => simp only [List.getElem_cons_zero, List.getElem_cons_succ]; exact hr.1 _ (List.getElem_mem _)
    | succ i => simp only [List.getElem_cons_succ]; exact ih hr.2 i (by simpa using hi)
theorem wrap_dec (i : Int) (h0 : 0 ≤ i) (h1 : i < 100) : wrap64 (i - 1) = i - 1 := by unfold wrap64; omega
theorem rd_at (l : List Int) (i : Nat) (hi : i < l.length) : rd l (i : Int) = l[i] := by simp [rd, List.getD_eq_getElem?_getD, List.getElem?_eq_getElem hi]
end Go.Proofs.Ytbpihhggeakhoaa.PTwo
