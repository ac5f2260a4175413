/- High and Low, put together. -/
import Derived.Test.YtgholjhcbhcicaaDoorAwake
namespace Go.Proofs.YtgholjhcbhcicaaDoor.PAll
open Go.RowKit Go.Proofs.YtgholjhcbhcicaaDoorW.PrintWords Go.Proofs.YtgholjhcbhcicaaDoorW.PrintLast Go.Proofs.YtgholjhcbhcicaaDoorW.PrintMore Go.Proofs.YtgholjhcbhcicaaDoor.Errs Go.Maps
set_option linter.unusedVariables false
set_option linter.unusedSimpArgs false
def lo12 (v : Int) : Int := (v + 2048) % 4096 - 2048
theorem lo_eq (v : Int) (h0 : 0 ≤ v) (h1 : v < 4294967296) : word_Lo.f v = some (lo12 v) := by
  simp [word_Lo.f, word_Sign.f, word_within_int.f, mn, mx, shl, shr, IntKind.wrap, IntKind.bits, IntKind.signed, wrap32, wrap64, lo12]
  omega
theorem hi_eq (v : Int) (h0 : 0 ≤ v) (h1 : v < 4294967296) : word_Hi.f v = some (((v - lo12 v % 4294967296) % 4294967296) / 4096) := by
  simp [word_Hi.f, lo_eq v h0 h1]
theorem shl12 (x : Int) (h0 : 0 ≤ x) (h1 : x < 1048576) : shl .u32 x 12 = x * 4096 := by
  simp [shl, IntKind.wrap, IntKind.bits, IntKind.signed]
  omega
theorem halves_sum (v : Int) (h0 : 0 ≤ v) (h1 : v < 4294967296) : ((((v - lo12 v % 4294967296) % 4294967296) / 4096) * 4096 + lo12 v % 4294967296) % 4294967296 = v := by
  unfold lo12
  omega
theorem xor_max (v : Int) (h0 : 0 ≤ v) (h1 : v < 4294967296) : bits BinOp.xor IntKind.u32 IntKind.u32.max v = 4294967295 - v := by
  have ha : BitVec.ofInt 32 IntKind.u32.max = BitVec.allOnes 32 := by decide
  show IntKind.u32.wrap ((BitVec.ofInt 32 IntKind.u32.max ^^^ BitVec.ofInt 32 v).toNat : Int) = _
  rw [ha, BitVec.allOnes_xor, BitVec.toNat_not, BitVec.toNat_ofInt]
  simp [IntKind.wrap, IntKind.bits, IntKind.signed]
  omega
def hNodes (v : Int) : List S47 := [nd 1 0 0 v ⟨#[]⟩, nd 6 0 0 0 ⟨#[]⟩, nd 1 0 0 12 ⟨#[]⟩, nd 13 0 0 0 ⟨#[]⟩, nd 1 0 0 v ⟨#[]⟩, nd 7 0 0 0 ⟨#[]⟩, nd 9 0 0 0 ⟨#[]⟩]
def nNodes (v : Int) : List S47 := [nd 1 0 0 v ⟨#[]⟩, nd 5 0 0 0 ⟨#[]⟩, nd 1 0 0 1 ⟨#[]⟩, nd 9 0 0 0 ⟨#[]⟩]
def gNodes (v : Int) : List S47 := [nd 1 0 0 v ⟨#[]⟩, nd 4 0 0 0 ⟨#[]⟩]
theorem step1 (left : List S86) (a : Int) : stepF 3 [] 0 true left (nd 1 0 0 a ⟨#[]⟩) = some (left ++ [⟨a, 0⟩], 0) := by
  have hp : partsOf (nd 1 0 0 a ⟨#[]⟩).f0 = 0 := rfl
  have hf : plainF (nd 1 0 0 a ⟨#[]⟩) [] 0 true = (a, 0, 0) := rfl
  unfold stepF nodeF
  rw [hp, if_neg (by omega), if_pos rfl, hf]
  simp
theorem hv_eq (v : Int) (h0 : 0 ≤ v) (h1 : v < 4294967296) : valueF 3 (hNodes v) [] 0 true = some (v, 0, none) := by
  have s2 : stepF 3 [] 0 true [⟨v, 0⟩] (nd 6 0 0 0 ⟨#[]⟩) = some ([⟨((v - lo12 v % 4294967296) % 4294967296) / 4096, 0⟩], 0) := by
    have e : nodeF 3 (nd 6 0 0 0 ⟨#[]⟩) [⟨v, 0⟩] [] 0 true = (word_Hi.f v).bind fun t => some (t, 0, 0) := rfl
    unfold stepF
    rw [show partsOf (nd 6 0 0 0 ⟨#[]⟩).f0 = 1 from rfl, if_neg (by simp), e, hi_eq v h0 h1]
    rfl
  have s4 : ∀ x : Int, 0 ≤ x → x < 1048576 → stepF 3 [] 0 true [⟨x, 0⟩, ⟨12, 0⟩] (nd 13 0 0 0 ⟨#[]⟩) = some ([⟨x * 4096, 0⟩], 0) := by
    intro x hx0 hx1
    have e : nodeF 3 (nd 13 0 0 0 ⟨#[]⟩) [⟨x, 0⟩, ⟨12, 0⟩] [] 0 true = some (shl .u32 x 12, 0, 0) := rfl
    unfold stepF
    rw [show partsOf (nd 13 0 0 0 ⟨#[]⟩).f0 = 2 from rfl, if_neg (by simp), e, shl12 x hx0 hx1]
    rfl
  have s6 : ∀ x : Int, stepF 3 [] 0 true [⟨x, 0⟩, ⟨v, 0⟩] (nd 7 0 0 0 ⟨#[]⟩) = some ([⟨x, 0⟩, ⟨lo12 v % 4294967296, 0⟩], 0) := by
    intro x
    have e : nodeF 3 (nd 7 0 0 0 ⟨#[]⟩) [⟨x, 0⟩, ⟨v, 0⟩] [] 0 true = (word_Lo.f v).bind fun t => some (t % 4294967296, 0, 0) := rfl
    unfold stepF
    rw [show partsOf (nd 7 0 0 0 ⟨#[]⟩).f0 = 1 from rfl, if_neg (by simp), e, lo_eq v h0 h1]
    rfl
  have s7 : ∀ x y : Int, stepF 3 [] 0 true [⟨x, 0⟩, ⟨y, 0⟩] (nd 9 0 0 0 ⟨#[]⟩) = some ([⟨(x + y) % 4294967296, 0⟩], 0) := by
    intro x y
    rfl
  unfold valueF hNodes
  simp only [runF, step1, Option.bind_some, if_true, List.nil_append, List.cons_append, s2]
  rw [s4 _ (by omega) (by omega)]
  simp only [runF, step1, Option.bind_some, if_true, List.nil_append, List.cons_append, s6, s7]
  simp [rd_T86]
  unfold lo12
  omega
theorem nv_eq (v : Int) (h0 : 0 ≤ v) (h1 : v < 4294967296) : valueF 3 (nNodes v) [] 0 true = some ((4294967296 - v) % 4294967296, 0, none) := by
  have s2 : stepF 3 [] 0 true [⟨v, 0⟩] (nd 5 0 0 0 ⟨#[]⟩) = some ([⟨bits BinOp.xor IntKind.u32 IntKind.u32.max v, 0⟩], 0) := rfl
  have s7 : ∀ x y : Int, stepF 3 [] 0 true [⟨x, 0⟩, ⟨y, 0⟩] (nd 9 0 0 0 ⟨#[]⟩) = some ([⟨(x + y) % 4294967296, 0⟩], 0) := fun x y => rfl
  unfold valueF nNodes
  simp only [runF, step1, Option.bind_some, if_true, List.nil_append, List.cons_append, s2, s7, xor_max v h0 h1]
  simp [rd_T86]
  try omega
theorem gv_eq (v : Int) (h0 : 0 ≤ v) (h1 : v < 4294967296) : valueF 3 (gNodes v) [] 0 true = some ((4294967296 - v) % 4294967296, 0, none) := by
  have s2 : stepF 3 [] 0 true [⟨v, 0⟩] (nd 4 0 0 0 ⟨#[]⟩) = some ([⟨(-v) % 4294967296, 0⟩], 0) := rfl
  unfold valueF gNodes
  simp only [runF, step1, Option.bind_some, if_true, List.nil_append, List.cons_append, s2]
  simp [rd_T86]
  try omega
end Go.Proofs.YtgholjhcbhcicaaDoor.PAll
