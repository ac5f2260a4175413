/- How data that is read is opened as plain values, by kinds (numbers, bools, strings, slices, structs): used by the rows of the statements. -/
import Derived.Test.YtgholjhcbhcicaaDoorWWords
import Derived.Test.YtgholjhcbhcicaaDoorProg
import Derived.WalkKit
import Derived.ProofKit
import Derived.OpenShut
import Derived.ShutString
import Derived.ChangeOld
import Derived.Below
import Derived.SizedLaws
namespace Go.Proofs.YtgholjhcbhcicaaDoor.Open
open Go.RowKit Go.Proofs.YtgholjhcbhcicaaDoorW.PrintWords
set_option linter.unusedVariables false

/-- What is read of a type is a value of a kind, with what is known of it. -/
def Opens (P : Program) (t : TypeId) {α : Type} (k : Kd α) (wf : α → Prop) : Prop :=
  ∀ {H : Type} {enc : TypeId × Value → H} {w : World} {base : Nat} {spare : Nat → Bool} {held : Bool} {fuel : Nat} {cs : List Value} {x : DataW H × List MemPlace},
    DataW.trod enc P w base spare held fuel t cs = some x → ∃ a, k.K w a cs ∧ wf a
theorem Opens.mono {P : Program} {t : TypeId} {α : Type} {k : Kd α} {wf wf' : α → Prop} (h : Opens P t k wf) (hw : ∀ a, wf a → wf' a) : Opens P t k wf' := fun hx => by
  obtain ⟨a, ha, hb⟩ := h hx
  exact ⟨a, ha, hw a hb⟩
theorem opens_int {P : Program} {t : TypeId} {k : IntKind} (ht : P.underlying t = some (.int k)) : Opens P t (Kd.int k) (fun n => (Lit.int k n).wf = true) := fun h => by
  obtain ⟨n, rfl, _, hw⟩ := DataW.trod_int ht h
  exact ⟨n, rfl, hw⟩
theorem opens_bool {P : Program} {t : TypeId} (ht : P.underlying t = some .bool) : Opens P t Kd.bool (fun _ => True) := fun h => by
  obtain ⟨n, rfl, _⟩ := DataW.trod_bool ht h
  exact ⟨n, rfl, trivial⟩
theorem opens_string {P : Program} {t : TypeId} (ht : P.underlying t = some .string) : Opens P t Kd.string (fun s => s.size ≤ 9223372036854775807) := fun h => by
  obtain ⟨s, rfl, _, hw⟩ := DataW.trod_string ht h
  exact ⟨s, rfl, by simpa [maxLen] using hw⟩
theorem exists_list {α : Type} (Q : Nat → α → Prop) : ∀ n : Nat, (∀ i, i < n → ∃ a, Q i a) → ∃ l : List α, l.length = n ∧ ∀ i a, l[i]? = some a → Q i a
  | 0, _ => ⟨[], rfl, fun i a h => by simp at h⟩
  | n + 1, h => by
    obtain ⟨l, hl, hq⟩ := exists_list Q n (fun i hi => h i (by omega))
    obtain ⟨a, ha⟩ := h n (by omega)
    refine ⟨l ++ [a], by simp [hl], fun i b hb => ?_⟩
    rcases Nat.lt_trichotomy i l.length with hi | hi | hi
    · rw [List.getElem?_append_left hi] at hb
      exact hq i b hb
    · subst hi
      simp at hb
      subst hb
      rw [hl]
      exact ha
    · rw [List.getElem?_eq_none (by simp; omega)] at hb
      cases hb
theorem cells_some {w : World} {base : Nat} {a : Addr} {n : Nat} {c : List Value} (h : w.cells? base a n = some c) : c.length = n ∧ ∀ i u, c[i]? = some u → w.cell? (a.add i) = some u := by
  unfold World.cells? at h
  split at h
  · refine ⟨by simpa using mapM_some_length h, fun i u hu => ?_⟩
    have hl : c.length = n := by simpa using mapM_some_length h
    have hi : i < c.length := by
      rcases Nat.lt_or_ge i c.length with h1 | h1
      · exact h1
      · rw [List.getElem?_eq_none h1] at hu
        cases hu
    have := mapM_some_get h i i (List.getElem?_range (by omega))
    rw [this]
    exact hu
  · cases h
theorem opens_slice {P : Program} {t e : TypeId} {α : Type} {d : Kd α} {wf : α → Prop} (ht : P.underlying t = some (.slice e)) (hs : P.cellsOf e = d.sz) (he : Opens P e d wf) :
    Opens P t (Kd.slice e d) (fun l => (∀ a ∈ l, wf a) ∧ l.length ≤ 9223372036854775807) := fun {H enc w base spare held fuel cs x} h => by
  rcases DataW.trod_slice ht h with ⟨rfl, _⟩ | ⟨a, len, cap, elems, rest, n, _, rfl, _, _, hl, hc, hn, hg, _⟩
  · exact ⟨[], ⟨none, 0, rfl, Nat.le_refl _, rfl, by simp, fun h => absurd h (by simp)⟩, by simp, by simp⟩
  · have hex : ∀ i, i < len → ∃ y : α, wf y ∧ ∃ c : List Value, c.length = d.sz ∧ d.K w y c ∧ ∀ j u, c[j]? = some u → w.cell? (a.add (i * d.sz + j)) = some u := by
      intro i hi
      have h1 := hg i hi
      rw [List.getElem?_eq_getElem (by omega)] at h1
      obtain ⟨c, h2, h3⟩ := Option.bind_eq_some_iff.1 h1
      obtain ⟨h4, h5⟩ := cells_some h2
      obtain ⟨y, hy, hw⟩ := he h3
      refine ⟨y, hw, c, by rw [h4, hs], hy, fun j u hu => ?_⟩
      have := h5 j u hu
      rw [add_add, hs] at this
      exact this
    obtain ⟨l, hlen, hq⟩ := exists_list _ len hex
    have hml : len ≤ 9223372036854775807 := by simp only [maxLen] at hc; omega
    refine ⟨l, ⟨some a, cap, by rw [hlen], by omega, rfl, by omega, fun _ => ⟨a, rfl, fun j p hp => ?_⟩⟩, fun y hy => ?_, by omega⟩
    · exact (hq j p hp).2
    · obtain ⟨i, hi, rfl⟩ := List.getElem_of_mem hy
      exact (hq i _ (List.getElem?_eq_getElem hi)).1

/-- What is read of a struct's fields, one behind the other. -/
def OpensF (P : Program) (ts : List TypeId) {α : Type} (k : Kd α) (wf : α → Prop) : Prop :=
  ∀ {H : Type} {enc : TypeId × Value → H} {w : World} {base : Nat} {spare : Nat → Bool} {held : Bool} {fuel : Nat} {cs : List Value},
    cs.length = (ts.map P.cellsOf).sum → (∀ i t, ts[i]? = some t → ∃ x, DataW.trod enc P w base spare held fuel t ((cs.drop ((ts.take i).map P.cellsOf).sum).take (P.cellsOf t)) = some x) → ∃ a, k.K w a cs ∧ wf a
theorem opensF_one {P : Program} {t : TypeId} {α : Type} {k : Kd α} {wf : α → Prop} (h : Opens P t k wf) : OpensF P [t] k wf := fun hl hf => by
  obtain ⟨x, hx⟩ := hf 0 t rfl
  have : P.cellsOf t = _ := (by simpa using hl.symm)
  simp only [List.take_zero, List.map_nil, List.sum_nil, List.drop_zero] at hx
  rw [this, List.take_length] at hx
  exact h hx
theorem opensF_cons {P : Program} {t : TypeId} {ts : List TypeId} {α β : Type} {k : Kd α} {d : Kd β} {wf : α → Prop} {wd : β → Prop} (h : Opens P t k wf) (hd : OpensF P ts d wd) :
    OpensF P (t :: ts) (Kd.pair k d) (fun x => wf x.1 ∧ wd x.2) := fun {H enc w base spare held fuel cs} hl hf => by
  simp only [List.map_cons, List.sum_cons] at hl
  obtain ⟨x, hx⟩ := hf 0 t rfl
  simp only [List.take_zero, List.map_nil, List.sum_nil, List.drop_zero] at hx
  obtain ⟨a, ha, hwa⟩ := h hx
  have hr : ∃ b, d.K w b (cs.drop (P.cellsOf t)) ∧ wd b := by
    refine hd (enc := enc) (base := base) (spare := spare) (held := held) (fuel := fuel) (by rw [List.length_drop]; omega) (fun i u hu => ?_)
    obtain ⟨y, hy⟩ := hf (i + 1) u (by simpa using hu)
    refine ⟨y, ?_⟩
    simp only [List.take_succ_cons, List.map_cons, List.sum_cons] at hy
    rw [List.drop_drop]
    exact hy
  obtain ⟨b, hb, hwb⟩ := hr
  exact ⟨(a, b), ⟨cs.take (P.cellsOf t), cs.drop (P.cellsOf t), (List.take_append_drop _ _).symm, ha, hb⟩, hwa, hwb⟩
theorem opens_struct {P : Program} {t : TypeId} {fs : Array Field} {ts : List TypeId} {α : Type} {k : Kd α} {wf : α → Prop} (ht : P.underlying t = some (.struct fs))
    (hts : fs.toList.map (·.type) = ts) (hoff : fs.toList.map (·.offset) = (List.range ts.length).map fun i => ((ts.take i).map P.cellsOf).sum) (hsum : P.cellsOf t = (ts.map P.cellsOf).sum) (h : OpensF P ts k wf) : Opens P t k wf := fun {H enc w base spare held fuel cs x} hx => by
  obtain ⟨xs, n, _, _, hl, hn, hf⟩ := DataW.trod_struct ht hx
  refine h (enc := enc) (base := base) (spare := spare) (held := held) (fuel := n) (by rw [hl, hsum]) (fun i u hu => ?_)
  subst hts
  rw [List.getElem?_map] at hu
  obtain ⟨f, hf1, rfl⟩ := Option.map_eq_some_iff.1 hu
  have hi : i < fs.toList.length := by
    rcases Nat.lt_or_ge i fs.toList.length with h1 | h1
    · exact h1
    · rw [List.getElem?_eq_none h1] at hf1
      cases hf1
  have ho : f.offset = (((fs.toList.map (·.type)).take i).map P.cellsOf).sum := by
    have := congrArg (fun l => l[i]?) hoff
    simp only [List.getElem?_map, hf1, Option.map_some, List.length_map] at this
    rw [List.getElem?_range hi] at this
    simpa using this
  have := hf i f (by simpa using hf1)
  rw [ho] at this
  rw [this, List.getElem?_eq_getElem (by simp at hi; omega)]
  exact ⟨_, rfl⟩
theorem opens_iso {P : Program} {t : TypeId} {α β : Type} {k : Kd α} {wf : α → Prop} (h : Opens P t k wf) (f : β → α) (g : α → β) (hfg : ∀ a, f (g a) = a) : Opens P t (Kd.iso k f) (fun b => wf (f b)) := fun hx => by
  obtain ⟨a, ha, hw⟩ := h hx
  exact ⟨g a, by show k.K _ (f (g a)) _; rw [hfg]; exact ha, by show wf (f (g a)); rw [hfg]; exact hw⟩

theorem wf_i64 {n : Int} (h : (Lit.int .i64 n).wf = true) : -9223372036854775808 ≤ n ∧ n ≤ 9223372036854775807 := by
  simp [Lit.wf, IntKind.min, IntKind.max, IntKind.signed, IntKind.bits] at h
  omega
theorem wf_i32 {n : Int} (h : (Lit.int .i32 n).wf = true) : -2147483648 ≤ n ∧ n ≤ 2147483647 := by
  simp [Lit.wf, IntKind.min, IntKind.max, IntKind.signed, IntKind.bits] at h
  omega
theorem wf_u32 {n : Int} (h : (Lit.int .u32 n).wf = true) : 0 ≤ n ∧ n ≤ 4294967295 := by
  simp [Lit.wf, IntKind.min, IntKind.max, IntKind.signed, IntKind.bits] at h
  omega
theorem wf_u8 {n : Int} (h : (Lit.int .u8 n).wf = true) : 0 ≤ n ∧ n ≤ 255 := by
  simp [Lit.wf, IntKind.min, IntKind.max, IntKind.signed, IntKind.bits] at h
  omega
/-! ### Arguments -/
/-- An argument that is no struct: one cell. -/
theorem arg_one {P : Program} {t : TypeId} {α : Type} {k : Kd α} {wf : α → Prop} (h : Opens P t k wf) {H : Type} {enc : TypeId × Value → H} {W : World} {base : Nat} {spare : Nat → Bool} {held : Bool} {v : Value} {d : DataW H} {p : List MemPlace}
    (hv : ∀ cs, v ≠ .agg cs) (hx : DataW.Trod enc P W base spare held t v d p) : ∃ a, k.K W a [v] ∧ wf a := by
  obtain ⟨fuel, hf⟩ := hx
  have : v.cells.toList = [v] := by
    cases v <;> first | rfl | exact absurd rfl (hv _)
  rw [this] at hf
  exact h hf
/-- An argument that is a struct. -/
theorem arg_struct {P : Program} {t : TypeId} {fs : Array Field} {α : Type} {k : Kd α} {wf : α → Prop} (h : Opens P t k wf) (ht : P.underlying t = some (.struct fs)) {H : Type} {enc : TypeId × Value → H} {W : World} {r : Reach} {base base' : Nat} {spare : Nat → Bool} {held : Bool} {v : Value} {d : DataW H} {p : List MemPlace}
    (hv : Value.okWide P W r base' t v) (hx : DataW.Trod enc P W base spare held t v d p) : ∃ a cs, v = .agg cs.toArray ∧ k.K W a cs ∧ wf a := by
  unfold Value.okWide at hv
  rw [ht] at hv
  obtain ⟨cs, rfl, _⟩ := hv
  obtain ⟨fuel, hf⟩ := hx
  obtain ⟨a, ha, hw⟩ := h hf
  exact ⟨a, cs.toList, by simp, ha, hw⟩
theorem agg_ne {P : Program} {t : TypeId} {H : Type} {enc : TypeId × Value → H} {W : World} {base : Nat} {spare : Nat → Bool} {held : Bool} {v : Value} {d : DataW H} {p : List MemPlace} {e : TypeId} (ht : P.underlying t = some (.slice e)) {r : Reach} {base' : Nat} (hv : Value.okWide P W r base' t v) :
    ∀ cs, v ≠ .agg cs := by
  obtain ⟨a0, len, cap, rfl⟩ := WideShapes.okWide_slice ht hv
  intro cs h
  cases h
end Go.Proofs.YtgholjhcbhcicaaDoor.Open
