/- What the document's numbers are: bits, fields, signs, shifts. -/
import Derived.Test.YtgholjhcbhcicaaDoorPAllx1
import Derived.Test.YtgholjhcbhcicaaDoorPAllx2
import Derived.Test.YtgholjhcbhcicaaDoorJoin
import Derived.Laws.BitsAllLaws
namespace Go.Proofs.YtgholjhcbhcicaaDoor.PAll
open Go.RowKit Go.Proofs.YtgholjhcbhcicaaDoorW.PrintWords Go.Proofs.YtgholjhcbhcicaaDoorW.PrintLast Go.Proofs.YtgholjhcbhcicaaDoorW.PrintMore Go.Maps
set_option linter.unusedVariables false
set_option linter.unusedSimpArgs false
theorem pow_pos2 (n : Nat) : 0 < 2 ^ n := Nat.pow_pos (by decide)
theorem half32 (q : Nat) (hq : q < 4294967296) : (Int.tdiv (q : Int) 2) % 4294967296 = ((q / 2 : Nat) : Int) := by
  rw [Int.tdiv_eq_ediv_of_nonneg (by omega)]
  omega
theorem tmod2 (q : Nat) : Int.tmod (q : Int) 2 = ((q % 2 : Nat) : Int) := by
  rw [Int.tmod_eq_emod_of_nonneg (by omega)]
  omega
theorem inc64 (j : Nat) (h : j < 1000) : wrap64 ((j : Int) + 1) = ((j + 1 : Nat) : Int) := by unfold wrap64; omega
theorem div_succ (a j : Nat) : a / 2 ^ j / 2 = a / 2 ^ (j + 1) := by rw [Nat.pow_succ, Nat.div_div_eq_div_mul]
theorem bit_l (a i : Nat) (ha : a < 4294967296) (hi : i < 40) : ∀ d j : Nat, j + d = i → typecaseref01_Bit.l0 (d + 1) ((a / 2 ^ j : Nat) : Int) (i : Int) (j : Int) = some ((a / 2 ^ i % 2 : Nat) : Int)
  | 0, j, h => by
    obtain rfl : j = i := by omega
    unfold typecaseref01_Bit.l0
    rw [if_neg (by omega), tmod2]
  | d + 1, j, h => by
    have ih := bit_l a i ha hi d (j + 1) (by omega)
    unfold typecaseref01_Bit.l0
    rw [if_pos (by omega), if_pos (by omega), half32 _ (Nat.lt_of_le_of_lt (Nat.div_le_self _ _) ha), div_succ, inc64 j (by omega)]
    exact ih
theorem bit_ev (a i : Nat) (ha : a < 4294967296) (hi : i < 40) : Ev (fun k => typecaseref01_Bit.f k (a : Int) (i : Int)) ((a / 2 ^ i % 2 : Nat) : Int) := by
  refine Ev.of (fun k => typecaseref01_Bit.mono _ _ k) (k := i + 1) ?_
  have := bit_l a i ha hi i 0 (by omega)
  simpa [typecaseref01_Bit.f] using this
theorem mod_succ (x j : Nat) : x % 2 ^ (j + 1) = x % 2 ^ j + 2 ^ j * (x / 2 ^ j % 2) := by
  rw [Nat.pow_succ, Nat.mod_mul]
theorem two_pow_le (j : Nat) (h : j ≤ 31) : 2 ^ j ≤ 2147483648 := by
  have := Nat.pow_le_pow_right (show 0 < 2 by decide) h
  simpa using this
theorem out_step (o u b : Nat) (h : o + u * b < 4294967296) : ((o : Int) + ((u : Int) * (b : Int)) % 4294967296) % 4294967296 = ((o + u * b : Nat) : Int) := by
  have e : (u : Int) * (b : Int) = ((u * b : Nat) : Int) := by simp
  rw [e]
  omega
theorem unit_step (u : Nat) (h : 2 * u < 4294967296) : (2 * (u : Int)) % 4294967296 = ((2 * u : Nat) : Int) := by omega
theorem field_l (a f n : Nat) (ha : a < 4294967296) (hn : f + n ≤ 32) (hn31 : n ≤ 31) : ∀ d j : Nat, j + d = n → Ev (fun k => typecaseref01_Field.l0 k (a : Int) (f : Int) (n : Int) ((a / 2 ^ f % 2 ^ j : Nat) : Int) ((2 ^ j : Nat) : Int) (j : Int)) ((a / 2 ^ f % 2 ^ n : Nat) : Int)
  | 0, j, h => by
    obtain rfl : j = n := by omega
    refine Ev.step (f := fun _ => some ((a / 2 ^ f % 2 ^ j : Nat) : Int)) (fun k => ?_) (Ev.now _)
    have hh : typecaseref01_Held.f (j : Int) = some (j : Int) := by
      unfold typecaseref01_Held.f
      rw [if_neg (by omega), if_neg (by omega)]
    simp only [typecaseref01_Field.l0, hh, Option.bind_some]
    rw [if_neg (by omega)]
  | d + 1, j, h => by
    have ih := field_l a f n ha hn hn31 d (j + 1) (by omega)
    have hb := bit_ev a (f + j) ha (by omega)
    have hh : typecaseref01_Held.f (n : Int) = some (n : Int) := by
      unfold typecaseref01_Held.f
      rw [if_neg (by omega), if_neg (by omega)]
    have e3 : wrap64 ((f : Int) + (j : Int)) = ((f + j : Nat) : Int) := by unfold wrap64; omega
    have hlt : a / 2 ^ f % 2 ^ (j + 1) < 2 ^ (j + 1) := Nat.mod_lt _ (pow_pos2 _)
    have hp := two_pow_le (j + 1) (by omega)
    have hs := mod_succ (a / 2 ^ f) j
    have hd : a / 2 ^ f / 2 ^ j = a / 2 ^ (f + j) := by rw [Nat.div_div_eq_div_mul, ← Nat.pow_add]
    rw [hd] at hs
    have hp2 : 2 * 2 ^ j = 2 ^ (j + 1) := by rw [Nat.pow_succ, Nat.mul_comm]
    refine Ev.step (f := fun k => (typecaseref01_Bit.f k (a : Int) ((f + j : Nat) : Int)).bind fun b => typecaseref01_Field.l0 k (a : Int) (f : Int) (n : Int) ((((a / 2 ^ f % 2 ^ j : Nat) : Int) + ((((2 ^ j : Nat) : Int) * b) % 4294967296)) % 4294967296) ((2 * ((2 ^ j : Nat) : Int)) % 4294967296) ((j + 1 : Nat) : Int)) (fun k => ?_) (Ev.bind hb ?_)
    · simp only [typecaseref01_Field.l0, hh, Option.bind_some]
      rw [if_pos (by omega), inc64 j (by omega), e3]
    · rw [out_step _ _ _ (by rw [← hs]; omega), unit_step _ (by rw [hp2]; omega), ← hs, hp2]
      exact ih
theorem field_ev (a f n : Nat) (ha : a < 4294967296) (hn : f + n ≤ 32) (hn31 : n ≤ 31) : Ev (fun k => typecaseref01_Field.f k (a : Int) (f : Int) (n : Int)) ((a / 2 ^ f % 2 ^ n : Nat) : Int) := by
  have h0 := field_l a f n ha hn hn31 n 0 (by omega)
  simp only [Nat.pow_zero, Nat.mod_one] at h0
  have h1 : Ev (fun k => typecaseref01_Field.j1 k (a : Int) (f : Int) (n : Int)) ((a / 2 ^ f % 2 ^ n : Nat) : Int) := Ev.step (fun k => by simp only [typecaseref01_Field.j1]; rfl) h0
  have h2 : Ev (fun k => typecaseref01_Field.j0 k (a : Int) (f : Int) (n : Int)) ((a / 2 ^ f % 2 ^ n : Nat) : Int) := Ev.step (fun k => by simp only [typecaseref01_Field.j0]; rw [if_neg (by omega)]) h1
  exact Ev.congr (fun k => by unfold typecaseref01_Field.f; rw [if_neg (by omega)]) h2
theorem sign_l (a : Nat) : ∀ d j : Nat, j + d = 12 → Ev (fun k => typecaseref01_Sign.l0 k 12 (a : Int) ((2 ^ j : Nat) : Int) (j : Int)) (wrap32 (wrap64 ((a : Int) - 4096)))
  | 0, j, h => by
    obtain rfl : j = 12 := by omega
    exact Ev.step (f := fun _ => some (wrap32 (wrap64 ((a : Int) - 4096)))) (fun k => by simp only [typecaseref01_Sign.l0]; rw [if_neg (by omega)]; rfl) (Ev.now _)
  | d + 1, j, h => by
    have ih := sign_l a d (j + 1) (by omega)
    have hp := two_pow_le (j + 1) (by omega)
    have hp2 : 2 ^ (j + 1) = 2 * 2 ^ j := by rw [Nat.pow_succ, Nat.mul_comm]
    refine Ev.step (fun k => ?_) ih
    simp only [typecaseref01_Sign.l0]
    rw [if_pos (by omega), inc64 j (by omega), hp2]
    congr 1
    rw [hp2] at hp
    generalize 2 ^ j = u at hp
    unfold wrap64
    omega
theorem bind_const {α β : Type} (o : Option α) (f : α → Option β) (a : α) (h : o = some a) : o.bind f = f a := by rw [h]; rfl
theorem sign_ev (a : Nat) (ha : a < 4294967296) : Ev (fun k => typecaseref01_Sign.f k (a : Int) 12) (lo12 (a : Int)) := by
  have hf := field_ev a 0 12 ha (by omega) (by omega)
  have hb := bit_ev a 11 ha (by omega)
  rw [Nat.pow_zero, Nat.div_one, show (2 : Nat) ^ 12 = 4096 from rfl] at hf
  rw [show (2 : Nat) ^ 11 = 2048 from rfl] at hb
  have hH : typecaseref01_Held.f 12 = some 12 := by decide
  have hw : wrap64 ((12 : Int) - 1) = ((11 : Nat) : Int) := by unfold wrap64; omega
  refine Ev.congr (f := fun k => (typecaseref01_Field.f k (a : Int) 0 12).bind fun t => (typecaseref01_Bit.f k (a : Int) ((11 : Nat) : Int)).bind fun b => if b = 1 then typecaseref01_Sign.l0 k 12 (wrap64 t) 1 0 else some (wrap32 (wrap64 t))) (fun k => ?_) (Ev.bind hf (Ev.bind hb ?_))
  · unfold typecaseref01_Sign.f
    rw [hH]
    simp only [Option.bind_some]
    rw [if_neg (by decide), hw]
  · have hw2 : wrap64 ((a % 4096 : Nat) : Int) = ((a % 4096 : Nat) : Int) := by unfold wrap64; omega
    rw [hw2]
    by_cases h1 : a / 2048 % 2 = 1
    · refine Ev.congr (fun k => if_pos (by rw [h1]; rfl)) ?_
      have := sign_l (a % 4096) 12 0 (by omega)
      have e : wrap32 (wrap64 (((a % 4096 : Nat) : Int) - 4096)) = lo12 (a : Int) := by
        unfold wrap32 wrap64 lo12
        omega
      rw [e] at this
      exact this
    · refine Ev.congr (f := fun _ => some (lo12 (a : Int))) (fun k => ?_) (Ev.now _)
      rw [if_neg (by omega)]
      refine congrArg some ?_
      unfold wrap32 lo12
      omega
theorem hi_ev (a : Nat) (ha : a < 4294967296) : Ev (fun k => typecaseref01_Hi.f k (a : Int)) (((((a : Int) - lo12 (a : Int) % 4294967296) % 4294967296) / 4096)) := by
  have hs := sign_ev a ha
  obtain ⟨q, hq⟩ : ∃ q : Nat, ((a : Int) - lo12 (a : Int) % 4294967296) % 4294967296 = (q : Int) := ⟨(((a : Int) - lo12 (a : Int) % 4294967296) % 4294967296).toNat, by omega⟩
  have hq2 : q < 4294967296 := by omega
  have hf := field_ev q 12 20 hq2 (by omega) (by omega)
  rw [show (2 : Nat) ^ 12 = 4096 from rfl, show (2 : Nat) ^ 20 = 1048576 from rfl] at hf
  refine Ev.bind hs ?_
  rw [hq]
  have e : ((q : Int) / 4096) = ((q / 4096 % 1048576 : Nat) : Int) := by omega
  rw [e]
  exact Ev.bind (f := fun _ t => some t) hf (Ev.now _)
theorem moved_up (a n : Nat) (hn : n < 4294967296) : ∀ d j : Nat, j ≤ 32 → j ≤ n → j + d = min n 32 → Ev (fun k => typecaseref12_moved.l0 k ((a * 2 ^ j % 4294967296 : Nat) : Int) (n : Int) true (j : Int)) ((a * 2 ^ (min n 32) % 4294967296 : Nat) : Int)
  | 0, j, h1, h2, h => by
    obtain rfl : j = min n 32 := by omega
    have hj : Ev (fun k => typecaseref12_moved.j1 k ((a * 2 ^ (min n 32) % 4294967296 : Nat) : Int) (n : Int) true ((min n 32 : Nat) : Int) false) ((a * 2 ^ (min n 32) % 4294967296 : Nat) : Int) :=
      Ev.step (f := fun _ => some _) (fun k => by simp only [typecaseref12_moved.j1]; rw [if_neg (by decide)]) (Ev.now _)
    refine Ev.step (fun k => ?_) hj
    simp only [typecaseref12_moved.l0]
    by_cases hlt : ((min n 32 : Nat) : Int) < (n : Int)
    · rw [if_pos hlt, decide_eq_false (show ¬ ((min n 32 : Nat) : Int) < 32 by omega)]
    · rw [if_neg hlt]
  | d + 1, j, h1, h2, h => by
    have ih := moved_up a n hn d (j + 1) (by omega) (by omega) (by omega)
    have e : (2 * ((a * 2 ^ j % 4294967296 : Nat) : Int)) % 4294967296 = ((a * 2 ^ (j + 1) % 4294967296 : Nat) : Int) := by
      rw [Nat.pow_succ, ← Nat.mul_assoc]
      omega
    have e2 : ((j : Int) + 1) % 4294967296 = ((j + 1 : Nat) : Int) := by omega
    have hj : Ev (fun k => typecaseref12_moved.j1 k ((a * 2 ^ j % 4294967296 : Nat) : Int) (n : Int) true (j : Int) true) ((a * 2 ^ (min n 32) % 4294967296 : Nat) : Int) := by
      refine Ev.step (fun k => ?_) ih
      simp only [typecaseref12_moved.j1]
      rw [if_pos trivial, if_pos trivial, e, e2]
    refine Ev.step (fun k => ?_) hj
    simp only [typecaseref12_moved.l0]
    rw [if_pos (by omega), decide_eq_true (show (j : Int) < 32 by omega)]
theorem moved_down (a n : Nat) (ha : a < 4294967296) (hn : n < 4294967296) : ∀ d j : Nat, j ≤ 32 → j ≤ n → j + d = min n 32 → Ev (fun k => typecaseref12_moved.l0 k ((a / 2 ^ j : Nat) : Int) (n : Int) false (j : Int)) ((a / 2 ^ (min n 32) : Nat) : Int)
  | 0, j, h1, h2, h => by
    obtain rfl : j = min n 32 := by omega
    have hj : Ev (fun k => typecaseref12_moved.j1 k ((a / 2 ^ (min n 32) : Nat) : Int) (n : Int) false ((min n 32 : Nat) : Int) false) ((a / 2 ^ (min n 32) : Nat) : Int) :=
      Ev.step (f := fun _ => some _) (fun k => by simp only [typecaseref12_moved.j1]; rw [if_neg (by decide)]) (Ev.now _)
    refine Ev.step (fun k => ?_) hj
    simp only [typecaseref12_moved.l0]
    by_cases hlt : ((min n 32 : Nat) : Int) < (n : Int)
    · rw [if_pos hlt, decide_eq_false (show ¬ ((min n 32 : Nat) : Int) < 32 by omega)]
    · rw [if_neg hlt]
  | d + 1, j, h1, h2, h => by
    have ih := moved_down a n ha hn d (j + 1) (by omega) (by omega) (by omega)
    have e2 : ((j : Int) + 1) % 4294967296 = ((j + 1 : Nat) : Int) := by omega
    have hj : Ev (fun k => typecaseref12_moved.j1 k ((a / 2 ^ j : Nat) : Int) (n : Int) false (j : Int) true) ((a / 2 ^ (min n 32) : Nat) : Int) := by
      refine Ev.step (fun k => ?_) ih
      simp only [typecaseref12_moved.j1]
      rw [if_pos trivial, if_neg (by decide), half32 _ (Nat.lt_of_le_of_lt (Nat.div_le_self _ _) ha), div_succ, e2]
    refine Ev.step (fun k => ?_) hj
    simp only [typecaseref12_moved.l0]
    rw [if_pos (by omega), decide_eq_true (show (j : Int) < 32 by omega)]
/-- Bit by bit. -/
theorem bits_l (a b g : Nat) (t : Nat → Nat → Nat) (ha : a < 4294967296) (hb : b < 4294967296) (ht : ∀ x y, t x y ≤ 1) (hg : ∀ i, i < 32 → g / 2 ^ i % 2 = t (a / 2 ^ i % 2) (b / 2 ^ i % 2)) :
    ∀ d j : Nat, j + d = 32 → Ev (fun k => typecaseref12_bits.l0 k (a : Int) (b : Int) ((t 0 0 : Nat) : Int) ((t 0 1 : Nat) : Int) ((t 1 0 : Nat) : Int) ((t 1 1 : Nat) : Int) ((g % 2 ^ j : Nat) : Int) ((2 ^ j % 4294967296 : Nat) : Int) (j : Int)) ((g % 4294967296 : Nat) : Int)
  | 0, j, h => by
    obtain rfl : j = 32 := by omega
    exact Ev.step (f := fun _ => some ((g % 4294967296 : Nat) : Int)) (fun k => by simp only [typecaseref12_bits.l0]; rw [if_neg (by omega)]) (Ev.now _)
  | d + 1, j, h => by
    have ih := bits_l a b g t ha hb ht hg d (j + 1) (by omega)
    have hx := bit_ev a j ha (by omega)
    have hy := bit_ev b j hb (by omega)
    have hpj := two_pow_le j (by omega)
    have hs := mod_succ g j
    have hgj := hg j (by omega)
    have hxl : a / 2 ^ j % 2 < 2 := Nat.mod_lt _ (by decide)
    have hyl : b / 2 ^ j % 2 < 2 := Nat.mod_lt _ (by decide)
    have htl := ht (a / 2 ^ j % 2) (b / 2 ^ j % 2)
    have hml : g % 2 ^ j < 2 ^ j := Nat.mod_lt _ (pow_pos2 _)
    have hp2 : 2 * 2 ^ j = 2 ^ (j + 1) := by rw [Nat.pow_succ, Nat.mul_comm]
    rw [hgj] at hs
    have hpick : typecaseref12_bits.pick ((t 0 0 : Nat) : Int) ((t 0 1 : Nat) : Int) ((t 1 0 : Nat) : Int) ((t 1 1 : Nat) : Int) ((a / 2 ^ j % 2 : Nat) : Int) ((b / 2 ^ j % 2 : Nat) : Int) = some ((t (a / 2 ^ j % 2) (b / 2 ^ j % 2) : Nat) : Int) := by
      generalize a / 2 ^ j % 2 = x at hxl
      generalize b / 2 ^ j % 2 = y at hyl
      have hx : x = 0 ∨ x = 1 := by omega
      have hy : y = 0 ∨ y = 1 := by omega
      rcases hx with rfl | rfl <;> rcases hy with rfl | rfl <;> rfl
    have hu : (2 * ((2 ^ j % 4294967296 : Nat) : Int)) % 4294967296 = ((2 ^ (j + 1) % 4294967296 : Nat) : Int) := by
      rw [← hp2]
      omega
    have hmul : 2 ^ j * t (a / 2 ^ j % 2) (b / 2 ^ j % 2) ≤ 2 ^ j := by
      have := Nat.mul_le_mul_left (2 ^ j) htl
      simpa using this
    refine Ev.step (f := fun k => (typecaseref01_Bit.f k (a : Int) (j : Int)).bind fun x => (typecaseref01_Bit.f k (b : Int) (j : Int)).bind fun y => (typecaseref12_bits.pick ((t 0 0 : Nat) : Int) ((t 0 1 : Nat) : Int) ((t 1 0 : Nat) : Int) ((t 1 1 : Nat) : Int) x y).bind fun t' => typecaseref12_bits.l0 k (a : Int) (b : Int) ((t 0 0 : Nat) : Int) ((t 0 1 : Nat) : Int) ((t 1 0 : Nat) : Int) ((t 1 1 : Nat) : Int) ((((g % 2 ^ j : Nat) : Int) + (((2 ^ j % 4294967296 : Nat) : Int) * t') % 4294967296) % 4294967296) ((2 * ((2 ^ j % 4294967296 : Nat) : Int)) % 4294967296) ((j + 1 : Nat) : Int)) (fun k => ?_) (Ev.bind hx (Ev.bind hy ?_))
    · simp only [typecaseref12_bits.l0]
      rw [if_pos (by omega), inc64 j (by omega)]
    · rw [hpick]
      simp only [Option.bind_some]
      rw [hu, Nat.mod_eq_of_lt (show 2 ^ j < 4294967296 by omega), out_step _ _ _ (by omega), ← hs]
      exact ih
theorem bits_ev (a b g : Nat) (t : Nat → Nat → Nat) (ha : a < 4294967296) (hb : b < 4294967296) (hgl : g < 4294967296) (ht : ∀ x y, t x y ≤ 1) (hg : ∀ i, i < 32 → g / 2 ^ i % 2 = t (a / 2 ^ i % 2) (b / 2 ^ i % 2)) :
    Ev (fun k => typecaseref12_bits.f k (a : Int) (b : Int) ((t 0 0 : Nat) : Int) ((t 0 1 : Nat) : Int) ((t 1 0 : Nat) : Int) ((t 1 1 : Nat) : Int)) (g : Int) := by
  have := bits_l a b g t ha hb ht hg 32 0 (by omega)
  rw [Nat.mod_eq_of_lt hgl] at this
  simpa [typecaseref12_bits.f] using this
theorem tb_div (x i : Nat) : x / 2 ^ i % 2 = (x.testBit i).toNat := by
  rw [Nat.testBit_eq_decide_div_mod_eq]
  have h : x / 2 ^ i % 2 < 2 := Nat.mod_lt _ (by decide)
  have : x / 2 ^ i % 2 = 0 ∨ x / 2 ^ i % 2 = 1 := by omega
  rcases this with h | h <;> rw [h] <;> rfl
theorem and_ev (a b : Nat) (ha : a < 4294967296) (hb : b < 4294967296) : Ev (fun k => typecaseref12_bits.f k (a : Int) (b : Int) 0 0 0 1) (Go.bits .and .u32 (a : Int) (b : Int)) := by
  rw [u32_and_nat a b ha hb]
  refine bits_ev a b (a &&& b) (fun x y => if x = 1 ∧ y = 1 then 1 else 0) ha hb (Nat.lt_of_le_of_lt Nat.and_le_left ha) (fun x y => by split <;> omega) fun i _ => ?_
  rw [tb_div, tb_div, tb_div, Nat.testBit_and]
  cases a.testBit i <;> cases b.testBit i <;> rfl
theorem or_ev (a b : Nat) (ha : a < 4294967296) (hb : b < 4294967296) : Ev (fun k => typecaseref12_bits.f k (a : Int) (b : Int) 0 1 1 1) (Go.bits .or .u32 (a : Int) (b : Int)) := by
  rw [u32_or_nat a b ha hb]
  refine bits_ev a b (a ||| b) (fun x y => if x = 0 ∧ y = 0 then 0 else 1) ha hb (Nat.or_lt_two_pow (n := 32) ha hb) (fun x y => by split <;> omega) fun i _ => ?_
  rw [tb_div, tb_div, tb_div, Nat.testBit_or]
  cases a.testBit i <;> cases b.testBit i <;> rfl
theorem xor_ev (a b : Nat) (ha : a < 4294967296) (hb : b < 4294967296) : Ev (fun k => typecaseref12_bits.f k (a : Int) (b : Int) 0 1 1 0) (Go.bits .xor .u32 (a : Int) (b : Int)) := by
  rw [u32_xor_nat a b ha hb]
  refine bits_ev a b (a ^^^ b) (fun x y => if x = y then 0 else 1) ha hb (Nat.xor_lt_two_pow (n := 32) ha hb) (fun x y => by split <;> omega) fun i _ => ?_
  rw [tb_div, tb_div, tb_div, Nat.testBit_xor]
  cases a.testBit i <;> cases b.testBit i <;> rfl
/-- Whether a part is a Place. -/
def cOf (b : Bool) : Int := if b = true then 1 else 0
theorem one_ev (kind v place : Int) (pl early : Bool) (hv : U32 v) : Ev (fun k => typecaseref12_one.f k kind v pl place early) ((turnT kind v (cOf pl) place early).1, false, (turnT kind v (cOf pl) place early).2.2) := by
  obtain ⟨n, rfl⟩ := Int.eq_ofNat_of_zero_le hv.1
  have hn : n < 4294967296 := by have := hv.2; omega
  unfold turnT turnedF typecaseref12_one.f
  by_cases h6 : kind = 6
  · simp only [if_pos h6]
    rw [hi_eq _ hv.1 hv.2]
    exact Ev.bind (f := fun _ t => some (t, false, 0)) (hi_ev n hn) (Ev.now _)
  by_cases h7 : kind = 7
  · simp only [if_neg h6, if_pos h7]
    rw [lo_eq _ hv.1 hv.2]
    exact Ev.bind (f := fun _ t => some (t % 4294967296, false, 0)) (sign_ev n hn) (Ev.now _)
  simp only [if_neg h6, if_neg h7]
  by_cases h8 : kind = 8
  · simp only [if_pos h8]
    cases early <;> exact Ev.now _
  simp only [if_neg h8]
  cases pl
  · simp only [cOf]
    by_cases h4 : kind = 4
    · simp only [if_pos h4]
      exact Ev.now _
    · simp only [if_neg h4]
      have hx : Go.bits BinOp.xor IntKind.u32 IntKind.u32.max (n : Int) = ((4294967295 : Int) - n) % 4294967296 := by
        rw [show IntKind.u32.max = ((4294967295 : Nat) : Int) from by decide, u32_xor_nat _ _ (by decide) hn]
        have : 4294967295 ^^^ n = 4294967295 - n := by
          apply Nat.eq_of_testBit_eq
          intro i
          rw [Nat.testBit_xor, show 4294967295 - n = 2 ^ 32 - (n + 1) from by omega, Nat.testBit_two_pow_sub_succ (by omega), show (4294967295 : Nat) = 2 ^ 32 - 1 from rfl, Nat.testBit_two_pow_sub_one]
          by_cases hi : i < 32
          · simp [hi]
          · have : n.testBit i = false := Nat.testBit_lt_two_pow (Nat.lt_of_lt_of_le hn (Nat.pow_le_pow_right (show 0 < 2 by decide) (show 32 ≤ i by omega)))
            simp [hi, this]
        rw [this]
        omega
      rw [hx]
      exact Ev.now _
  · exact Ev.now _
theorem two_ev (kind a b : Int) (pa pb : Bool) (ha : U32 a) (hb : U32 b) (hk : 9 ≤ kind ∧ kind ≤ 17) :
    Ev (fun k => typecaseref12_two.f k kind a pa b pb) ((joinF kind a (cOf pa) b (cOf pb)).1, decide ((joinF kind a (cOf pa) b (cOf pb)).2.1 = 1), (joinF kind a (cOf pa) b (cOf pb)).2.2) := by
  obtain ⟨m, rfl⟩ := Int.eq_ofNat_of_zero_le ha.1
  obtain ⟨n, rfl⟩ := Int.eq_ofNat_of_zero_le hb.1
  have hm : m < 4294967296 := by have := ha.2; omega
  have hn : n < 4294967296 := by have := hb.2; omega
  unfold joinF typecaseref12_two.f
  by_cases h9 : kind = 9
  · simp only [if_pos h9]
    cases pa <;> cases pb <;> exact Ev.now _
  by_cases h10 : kind = 10
  · simp only [if_neg h9, if_pos h10]
    cases pa <;> cases pb <;> exact Ev.now _
  simp only [if_neg h9, if_neg h10]
  cases pa
  · cases pb
    · simp only [cOf]
      refine Ev.step (g := fun k => typecaseref12_two.j0 k kind false (m : Int) false (n : Int) false) (fun k => by simp only [typecaseref12_two.j0]; rfl) ?_
      simp only [Bool.false_eq_true, if_false, Int.zero_ne_one, or_self]
      by_cases h12 : kind = 12
      · subst h12
        simp only [show ¬ ((12 : Int) = 11) by decide, if_false, if_true, true_and]
        by_cases hz : (n : Int) = 0
        · simp only [if_pos hz]
          exact Ev.now _
        · simp only [if_neg hz]
          simp [binF, eval_reckoned.f, hz, show ¬ n = 0 by omega]
          exact Ev.now _
      have hb12 : ¬ (kind = 12 ∧ (n : Int) = 0) := fun h => h12 h.1
      simp only [if_neg h12, if_neg hb12]
      unfold binF eval_reckoned.f
      by_cases h11 : kind = 11
      · simp only [if_pos h11]
        exact Ev.now _
      simp only [if_neg h11, if_neg h12]
      by_cases h13 : kind = 13
      · simp only [if_pos h13]
        rw [if_pos (by omega)]
        have h := moved_up m n hn (min n 32) 0 (by omega) (by omega) (by omega)
        have e : shl .u32 (m : Int) (n : Int) = ((m * 2 ^ (min n 32) % 4294967296 : Nat) : Int) := by
          simp [shl, IntKind.wrap, IntKind.bits, IntKind.signed]
        rw [Nat.pow_zero, Nat.mul_one, Nat.mod_eq_of_lt hm, ← e] at h
        exact Ev.bind (f := fun _ t => some (t, false, 0)) h (Ev.now _)
      simp only [if_neg h13]
      by_cases h14 : kind = 14
      · simp only [if_pos h14]
        rw [if_pos (by omega)]
        have h := moved_down m n hm hn (min n 32) 0 (by omega) (by omega) (by omega)
        have e : shr .u32 (m : Int) (n : Int) = ((m / 2 ^ (min n 32) : Nat) : Int) := by
          simp [shr, IntKind.bits]
        rw [Nat.pow_zero, Nat.div_one, ← e] at h
        exact Ev.bind (f := fun _ t => some (t, false, 0)) h (Ev.now _)
      simp only [if_neg h14]
      by_cases h15 : kind = 15
      · simp only [if_pos h15]
        exact Ev.bind (f := fun _ t => some (t, false, 0)) (and_ev m n hm hn) (Ev.now _)
      simp only [if_neg h15]
      by_cases h16 : kind = 16
      · simp only [if_pos h16]
        exact Ev.bind (f := fun _ t => some (t, false, 0)) (xor_ev m n hm hn) (Ev.now _)
      simp only [if_neg h16]
      exact Ev.bind (f := fun _ t => some (t, false, 0)) (or_ev m n hm hn) (Ev.now _)
    · exact Ev.step (g := fun k => typecaseref12_two.j0 k kind true (m : Int) false (n : Int) true) (f := fun _ => some (0, false, 7)) (fun k => by simp only [typecaseref12_two.j0]; rfl) (Ev.now _)
  · cases pb <;> exact Ev.step (f := fun _ => some (0, false, 7)) (fun k => by simp only [typecaseref12_two.j0]; rfl) (Ev.now _)
end Go.Proofs.YtgholjhcbhcicaaDoor.PAll
