/- SpanClimbs: the pure statement. No machine in it. -/
import Derived.Test.YtbpihhggeakhoaaPTwoSpanPure
import Derived.Test.YtbpihhggeakhoaaPTwox9
namespace Go.Proofs.Ytbpihhggeakhoaa.PTwo
set_option linter.unusedSimpArgs false
set_option linter.unusedVariables false
open Go.RowKit Go.Proofs.YtbpihhggeakhoaaW.PrintWords Go.Proofs.YtbpihhggeakhoaaW.PrintLast Go.Proofs.YtbpihhggeakhoaaW.PrintMore

theorem climbs_from (cl : List Int) (hc : 1 ≤ cl.length ∧ cl.length ≤ 3) (hr : Rises cl) (a0_0 a0_1 a0_2 : Int) (a0_3 : ByteArray) (a0_4 a0_5 a0_6 a0_7 a0_8 : Int) (a0_9 : ByteArray) (a0_10 : Int) (l0_11 : List S86) (a0_12 : Int) (a0_13 a0_14 : Bool) (hn : ∀ (k : Nat) (s : Int), span_Next.f (k + 22) a0_0 a0_1 a0_2 a0_3 a0_4 a0_5 a0_6 a0_7 a0_8 a0_9 a0_10 l0_11 a0_12 a0_13 a0_14 s = some (nxt cl s)) (d : Nat) : ∀ (k i : Nat) (hi : i < cl.length), i + d + 1 = cl.length → d + 24 < k →
    typecaselaw18_SpanClimbs.l0 k cl cl[i] true (i : Int) a0_0 a0_1 a0_2 a0_3 a0_4 a0_5 a0_6 a0_7 a0_8 a0_9 a0_10 l0_11 a0_12 a0_13 a0_14 = some true := by
  induction d with
  | zero =>
    intro k i hi h hk
    obtain ⟨k, rfl⟩ : ∃ m, k = (m + 22) + 1 + 1 := ⟨k - 24, by omega⟩
    have hlast : nxt cl cl[i] = (cl[i], false) := by rw [nxt_rise cl hr i hi, dif_neg (by omega)]
    have fin : typecaselaw18_SpanClimbs.l0 (k + 22 + 1) cl cl[i] false ((i : Int) + 1) a0_0 a0_1 a0_2 a0_3 a0_4 a0_5 a0_6 a0_7 a0_8 a0_9 a0_10 l0_11 a0_12 a0_13 a0_14 = some true := by
      simp only [typecaselaw18_SpanClimbs.l0]
      rw [if_neg (by omega), if_neg (by decide), wrap_dec _ (by omega) (by omega), if_pos (by omega), if_pos (by omega), show (cl.length : Int) - 1 = (i : Int) by omega, rd_at cl i hi]
      simp
    conv => lhs; unfold typecaselaw18_SpanClimbs.l0
    rw [if_pos (by omega), if_pos rfl, if_pos (by omega), rd_at cl i hi, if_pos rfl, show k + 22 + 1 = (k + 1) + 22 by omega, hn (k + 1), hlast, wrap_in _ (by omega) (by omega)]
    simp only [Option.bind_some]
    rw [show k + 1 + 22 = k + 22 + 1 by omega, fin]
    by_cases h0 : (i : Int) > 0
    · rw [if_pos h0, wrap_dec _ (by omega) (by omega), if_pos (by omega), if_pos (by omega)]
      obtain ⟨j, rfl⟩ : ∃ j, i = j + 1 := ⟨i - 1, by omega⟩
      rw [show ((j + 1 : Nat) : Int) - 1 = (j : Int) by omega, rd_at cl j (by omega), if_neg]
      have := rise_step cl hr j hi
      omega
    · rw [if_neg h0]
  | succ d ih =>
    intro k i hi h hk
    obtain ⟨k, rfl⟩ : ∃ m, k = (m + 22) + 1 := ⟨k - 23, by omega⟩
    have hnext : nxt cl cl[i] = (cl[i + 1], true) := by rw [nxt_rise cl hr i hi, dif_pos (by omega)]
    have fin := ih (k + 22) (i + 1) (by omega) (by omega) (by omega)
    conv => lhs; unfold typecaselaw18_SpanClimbs.l0
    rw [if_pos (by omega), if_pos rfl, if_pos (by omega), rd_at cl i hi, if_pos rfl, hn k, hnext, wrap_in _ (by omega) (by omega), show (i : Int) + 1 = ((i + 1 : Nat) : Int) by omega]
    simp only [Option.bind_some]
    rw [fin]
    by_cases h0 : (i : Int) > 0
    · rw [if_pos h0, wrap_dec _ (by omega) (by omega), if_pos (by omega), if_pos (by omega)]
      obtain ⟨j, rfl⟩ : ∃ j, i = j + 1 := ⟨i - 1, by omega⟩
      rw [show ((j + 1 : Nat) : Int) - 1 = (j : Int) by omega, rd_at cl j (by omega), if_neg]
      have := rise_step cl hr j hi
      omega
    · rw [if_neg h0]
theorem SpanClimbs (a0_0 a0_1 a0_2 : Int) (a0_3 : ByteArray) (a0_4 a0_5 a0_6 a0_7 a0_8 : Int) (a0_9 : ByteArray) (a0_10 : Int) (l0_11 : List S86) (a0_12 : Int) (a0_13 a0_14 : Bool) : typecaselaw18_SpanClimbs.f 40 a0_0 a0_1 a0_2 a0_3 a0_4 a0_5 a0_6 a0_7 a0_8 a0_9 a0_10 l0_11 a0_12 a0_13 a0_14 = some true := by
  unfold typecaselaw18_SpanClimbs.f
  rw [awake_true 17]
  simp only [Option.bind_some]
  rw [if_pos trivial]
  by_cases hl : (a0_3.size : Int) > 1000
  · rw [if_pos hl]
  · rw [if_neg hl, cls_prog 18]
    simp only [Option.bind_some]
    have hc := cls_len a0_0 a0_4 a0_6 a0_7 a0_3.size a0_10 a0_13 a0_14
    have hr := cls_rises a0_0 a0_4 a0_6 a0_7 a0_3.size a0_10 a0_13 a0_14
    have hp : ∀ x, x ∈ (cls a0_0 a0_4 a0_6 a0_7 a0_3.size a0_10 a0_13 a0_14) → -1 < x := by
      intro x hx
      revert hx
      unfold cls
      repeat' split
      all_goals (simp; try omega)
    have hnx := fun k => next_prog k a0_0 a0_1 a0_2 a0_3 a0_4 a0_5 a0_6 a0_7 a0_8 a0_9 a0_10 l0_11 a0_12 a0_13 a0_14
    generalize (cls a0_0 a0_4 a0_6 a0_7 a0_3.size a0_10 a0_13 a0_14) = cl at *
    rw [if_neg (by omega), decide_eq_false (by omega)]
    simp only [typecaselaw18_SpanClimbs.j0]
    rw [if_neg (by decide), hnx 17]
    simp only [Option.bind_some]
    have h0 : 0 < cl.length := by omega
    have e0 : nxt cl (-1) = (cl[0], true) := by
      cases cl with
      | nil => cases h0
      | cons x l => unfold nxt; rw [if_pos (hp x (by simp))]; rfl
    rw [e0]
    have := climbs_from cl hc hr a0_0 a0_1 a0_2 a0_3 a0_4 a0_5 a0_6 a0_7 a0_8 a0_9 a0_10 l0_11 a0_12 a0_13 a0_14 hnx (cl.length - 1) 39 0 h0 (by omega) (by omega)
    rw [show ((0 : Nat) : Int) = 0 from rfl] at this
    exact this
end Go.Proofs.Ytbpihhggeakhoaa.PTwo
