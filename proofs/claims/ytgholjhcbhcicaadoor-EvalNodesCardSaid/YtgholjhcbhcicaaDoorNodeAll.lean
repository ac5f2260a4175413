/- A node, whatever it is. -/
import Derived.Test.YtgholjhcbhcicaaDoorNodeZero
import Derived.Test.YtgholjhcbhcicaaDoorNodeOne
import Derived.Test.YtgholjhcbhcicaaDoorNodeTwo
namespace Go.Proofs.YtgholjhcbhcicaaDoor.PAll
open Go.RowKit Go.Proofs.YtgholjhcbhcicaaDoorW.PrintWords Go.Proofs.YtgholjhcbhcicaaDoorW.PrintLast Go.Proofs.YtgholjhcbhcicaaDoorW.PrintMore Go.Proofs.YtgholjhcbhcicaaDoor.Errs Go.Maps
set_option linter.unusedVariables false
set_option linter.unusedSimpArgs false
/-- What a node makes of the parts that are left, and a code. -/
def stepF (k : Nat) (syms : List S52) (place : Int) (early : Bool) (left : List S86) (n : S47) : Option (List S86 × Int) :=
  if partsOf n.f0 < 0 ∨ (left.length : Int) < partsOf n.f0 then some (left, 6)
  else (nodeF k n left syms place early).bind fun r => some (if r.2.2 = 0 then left.take (left.length - (partsOf n.f0).toNat) ++ [⟨r.1, r.2.1⟩] else left, r.2.2)
theorem parts_cases (x : Int) : partsOf x = -1 ∨ partsOf x = 0 ∨ partsOf x = 1 ∨ partsOf x = 2 := by
  unfold partsOf
  split
  · simp
  · split
    · simp
    · split <;> simp
theorem node_any (P : Nat → Prop) (g : Nat) (A : Option Addr) (c : Nat) (syms : List S52) (place : Int) (early : Bool) (k : Nat) (asked : Int) (left left' : List S86) (n : S47) (code : Int) (hnm : n.f4.size ≤ maxLen) (hss : ∀ s ∈ syms, s.f0.size ≤ maxLen) (w0 w : World) (hB : Below w0.heap.size w0 w) (hS : Kd.C k52 w0 A syms.length syms) (hI : RS w0 w P g A c syms place early asked left) (hPN : ∀ k, w.heap.size ≤ k → P k) (hm : asked < 1000000) (hl : left.length < 1000000)
    (h : stepF k syms place early left n = some (left', code)) :
    Calls Tryd.prog 23 #[.pointer (some ⟨g, 0, none⟩), .agg #[.int .i64 n.f0, .int .i64 n.f1, .int .i64 n.f2, .int .u32 n.f3, .string n.f4]] w fun e w' => e = .returned (codeV code) ∧ NodeEnd w0 w P g A c syms place early asked left' w' := by
  unfold stepF at h
  by_cases hbad : partsOf n.f0 < 0 ∨ (left.length : Int) < partsOf n.f0
  · rw [if_pos hbad] at h
    simp only [Option.some.injEq, Prod.mk.injEq] at h
    obtain ⟨rfl, rfl⟩ := h
    exact (node_bad P g A c syms place early asked left n w0 w hB hI hbad).mono fun e w' ⟨he, hb⟩ => ⟨he, ⟨asked, Int.le_refl _, by omega, RS_below hI hb⟩, below_weaken hB hB.size hb, ⟨hb.size, fun i hi _ => hb.block i hi⟩⟩
  · rw [if_neg hbad] at h
    have hn1 : ¬ partsOf n.f0 < 0 := fun e => hbad (.inl e)
    have hn2 : ¬ (left.length : Int) < partsOf n.f0 := fun e => hbad (.inr e)
    rcases parts_cases n.f0 with hp | hp | hp | hp
    · omega
    · have hf : nodeF k n left syms place early = some (plainF n syms place early) := by simp only [nodeF, if_pos hp]
      rw [hf] at h
      simp only [Option.bind_some, Option.some.injEq, Prod.mk.injEq] at h
      obtain ⟨rfl, rfl⟩ := h
      refine (node_plain P g A c syms place early asked left n _ hnm hss w0 w hB hS hI hPN hm hp rfl hl).mono fun e w' hh => ?_
      rw [hp]
      simpa using hh
    · have hf : nodeF k n left syms place early = turnedF n.f0 (rd_T86 left ((left.length : Int) - 1)).f0 (rd_T86 left ((left.length : Int) - 1)).f1 place early := by simp only [nodeF, hp]; rfl
      rw [hf] at h
      cases hr : turnedF n.f0 (rd_T86 left ((left.length : Int) - 1)).f0 (rd_T86 left ((left.length : Int) - 1)).f1 place early with
      | none => rw [hr] at h; simp at h
      | some r =>
        rw [hr] at h
        simp only [Option.bind_some, Option.some.injEq, Prod.mk.injEq] at h
        obtain ⟨rfl, rfl⟩ := h
        refine (node_one P g A c syms place early asked left n r hnm hss w0 w hB hS hI hPN hm hp (by omega) hr hl).mono fun e w' hh => ?_
        rw [hp]
        simpa using hh
    · have hf : nodeF k n left syms place early = eval_joined.f k n.f0 (rd_T86 left ((left.length : Int) - 2)).f0 (rd_T86 left ((left.length : Int) - 2)).f1 (rd_T86 left ((left.length : Int) - 1)).f0 (rd_T86 left ((left.length : Int) - 1)).f1 := by simp only [nodeF, hp]; rfl
      rw [hf] at h
      cases hr : eval_joined.f k n.f0 (rd_T86 left ((left.length : Int) - 2)).f0 (rd_T86 left ((left.length : Int) - 2)).f1 (rd_T86 left ((left.length : Int) - 1)).f0 (rd_T86 left ((left.length : Int) - 1)).f1 with
      | none => rw [hr] at h; simp at h
      | some r =>
        rw [hr] at h
        simp only [Option.bind_some, Option.some.injEq, Prod.mk.injEq] at h
        obtain ⟨rfl, rfl⟩ := h
        refine (node_two P g A c syms place early asked left n r hnm hss w0 w hB hS hI hPN hm k hp (by omega) hr hl).mono fun e w' hh => ?_
        rw [hp]
        simpa using hh
end Go.Proofs.YtgholjhcbhcicaaDoor.PAll
