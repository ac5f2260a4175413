/- The document's answer is what the reckoner comes to. -/
import Derived.Test.YtgholjhcbhcicaaDoorRefPure
import Derived.Test.YtgholjhcbhcicaaDoorPAllx3
namespace Go.Proofs.YtgholjhcbhcicaaDoor.PAll
open Go.RowKit Go.Proofs.YtgholjhcbhcicaaDoorW.PrintWords Go.Proofs.YtgholjhcbhcicaaDoorW.PrintLast Go.Proofs.YtgholjhcbhcicaaDoorW.PrintMore Go.Maps
set_option linter.unusedVariables false
set_option linter.unusedSimpArgs false
theorem rd49_eq' {l : List S49} {i : Nat} (h : i < l.length) : rd_T49 l (i : Int) = l[i] := by simp [rd_T49, List.getD_eq_getElem?_getD, List.getElem?_eq_getElem h]
theorem rd47_eq' {l : List S47} {i : Nat} (h : i < l.length) : rd_T47 l (i : Int) = l[i] := by simp [rd_T47, List.getD_eq_getElem?_getD, List.getElem?_eq_getElem h]
theorem find_l (l : List S49) (nm : ByteArray) (hl : l.length ≤ 1000) : ∀ d i : Nat, i + d = l.length → (∀ j (hj : j < l.length), j < i → (l[j].f0.toList == nm.toList) = false) → Ev (fun k => typecaseref12_find.l0 k l nm (i : Int)) (idxInt (symIdx (l.map symOf) nm))
  | 0, i, h, hf => by
    obtain rfl : i = l.length := by omega
    have e : symIdx (l.map symOf) nm = none := symIdx_none (fun j hj => by
      have := hf j (by simpa using hj) (by simpa using hj)
      simpa [symOf] using this)
    rw [e]
    refine Ev.step (f := fun _ => some (-1)) (fun k => ?_) (Ev.now _)
    simp only [typecaseref12_find.l0]
    rw [if_neg (by omega)]
  | d + 1, i, h, hf => by
    have hi : i < l.length := by omega
    have hx := rd49_eq' hi
    by_cases he : l[i].f0.toList = nm.toList
    · have e : symIdx (l.map symOf) nm = some i := symIdx_some i (by simpa using hi) (fun j hj hji => by
        have := hf j (by simpa using hj) hji
        simpa [symOf] using this) (by simp [symOf, he])
      rw [e]
      refine Ev.step (f := fun _ => some (i : Int)) (fun k => ?_) (Ev.now _)
      simp only [typecaseref12_find.l0]
      rw [if_pos (by omega), if_pos (by omega), hx, if_pos he]
    · have ih := find_l l nm hl d (i + 1) (by omega) (fun j hj hji => by
        by_cases hji2 : j = i
        · subst hji2
          simpa using he
        · exact hf j hj (by omega))
      refine Ev.step (fun k => ?_) ih
      simp only [typecaseref12_find.l0]
      rw [if_pos (by omega), if_pos (by omega), hx, if_neg he, inc64 i (by omega)]
theorem find_ev (l : List S49) (nm : ByteArray) (hl : l.length ≤ 1000) : Ev (fun k => typecaseref12_find.f k l nm) (idxInt (symIdx (l.map symOf) nm)) :=
  find_l l nm hl l.length 0 (by omega) (fun j hj h => by omega)
/-- A part as the document has it. -/
def toD (p : S86) : S55 := ⟨p.f0, decide (p.f1 = 1)⟩
theorem cOf_toD {p : S86} (h : GoodP p) : cOf (toD p).f1 = p.f1 := by
  rcases h.2 with h | h <;> simp [toD, cOf, h]
theorem rd55_toD {l : List S86} {i : Int} (h0 : 0 ≤ i) (h : i < l.length) : rd_T55 (l.map toD) i = toD (rd_T86 l i) := by
  rw [rd86_eq h0 h]
  simp [rd_T55, List.getD_eq_getElem?_getD, List.getElem?_eq_getElem (show i.toNat < l.length by omega)]
/-- How the document's answer ends. -/
def refEnd (r : Int × Int × Option (Int × Int × Int)) : Int × Bool × Int × Int × Int :=
  match r.2.2 with
  | none => (r.1, decide (r.2.1 = 1), 0, 0, 0)
  | some f => (0, false, f.1, f.2.1, f.2.2)
/-- Of what is left of a run. -/
def finT (l : List S47) (r : List S86 × Option (Int × Int × Int)) : Int × Int × Option (Int × Int × Int) :=
  match r.2 with
  | some f => (0, 0, some f)
  | none => if r.1.length = 1 then ((rd_T86 r.1 0).f0, (rd_T86 r.1 0).f1, none)
      else (0, 0, some (if l.length = 0 then (0, 0, 6) else ((rd_T47 l ((l.length : Int) - 1)).f1, (rd_T47 l ((l.length : Int) - 1)).f2, 6)))
theorem valueT_fin (l : List S47) (syms : List S52) (place : Int) (early : Bool) : valueT l syms place early = finT l (runT syms place early l []) := by
  unfold valueT finT
  rfl
section
variable (l : List S47) (syms : List S49) (place : Int) (early : Bool)
/-- The way on behind a node. -/
theorem j4_ev (i : Nat) (hl : l.length ≤ 1000) (hi : i < l.length) (left : List S86) (hll : left.length ≤ 1000) (v c code : Int) (kk : Nat) (hk : kk ≤ left.length) (hcode : 0 ≤ code) (n0 n1 n2 n3 : Int) (n4 : ByteArray) (h1 : n1 = (rd_T47 l (i : Int)).f1) (h2 : n2 = (rd_T47 l (i : Int)).f2) (pl : Bool)
    (r : Int × Bool × Int × Int × Int) (hbad : code ≠ 0 → r = (0, false, n1, n2, code)) (hgo : code = 0 → Ev (fun k => typecaseref12_Value.l0 k l syms place early ((left.map toD).take kk ++ [⟨v, pl⟩]) ((i + 1 : Nat) : Int)) r) :
    Ev (fun k => typecaseref12_Value.j4 k l syms place early (left.map toD) (i : Int) code (kk : Int) n0 n1 n2 n3 n4 v pl) r := by
  by_cases hc : code = 0
  · subst hc
    refine Ev.step (fun k => ?_) (hgo rfl)
    simp only [typecaseref12_Value.j4, Option.bind_some]
    have hlen : ((left.map toD).take kk).length ≤ 1000 := by rw [List.length_take, List.length_map]; omega
    rw [if_neg (by omega), if_pos (by omega), if_pos (by simp; omega), if_pos (by simp; omega), if_pos (by simp; omega), inc64 i (by omega)]
    simp
  · rw [hbad hc]
    refine Ev.step (f := fun _ => some (0, false, n1, n2, code)) (fun k => ?_) (Ev.now _)
    simp only [typecaseref12_Value.j4]
    rw [if_pos (by omega)]
theorem toD_mk (v : Int) (pl : Bool) : toD ⟨v, cOf pl⟩ = ⟨v, pl⟩ := by cases pl <;> simp [toD, cOf]
/-- Behind a node whose parts, value, class and code are known. -/
theorem node_ev (hl : l.length ≤ 1000) (hp : U32 place) (hs : ∀ s ∈ syms.map symOf, GoodS s) (hn : ∀ n ∈ l, U32 n.f3) (i : Nat) (hi : i < l.length) (left : List S86) (hll : left.length ≤ i) (hgl : ∀ p ∈ left, GoodP p)
    (ih : ∀ left' : List S86, left'.length ≤ i + 1 → (∀ p ∈ left', GoodP p) → Ev (fun k => typecaseref12_Value.l0 k l syms place early (left'.map toD) ((i + 1 : Nat) : Int)) (refEnd (finT l (runT (syms.map symOf) place early (l.drop (i + 1)) left'))))
    (v code : Int) (pl : Bool) (kk : Nat) (hk : kk ≤ left.length) (hcode : 0 ≤ code) (n0 n3 : Int) (n4 : ByteArray)
    (hst : stepT (syms.map symOf) place early left (rd_T47 l (i : Int)) = (if code = 0 then left.take kk ++ [⟨v, cOf pl⟩] else left, code)) :
    Ev (fun k => typecaseref12_Value.j4 k l syms place early (left.map toD) (i : Int) code (kk : Int) n0 (rd_T47 l (i : Int)).f1 (rd_T47 l (i : Int)).f2 n3 n4 v pl) (refEnd (finT l (runT (syms.map symOf) place early (rd_T47 l (i : Int) :: l.drop (i + 1)) left))) := by
  have hx := rd47_eq' hi
  have hgood := (step_eq (syms.map symOf) place early left (rd_T47 l (i : Int)) (by rw [hx]; exact hn _ (List.getElem_mem hi)) hp hs hgl).2
  rw [hst] at hgood
  refine j4_ev l syms place early i hl hi left (by omega) v (cOf pl) code kk hk hcode n0 _ _ n3 n4 rfl rfl pl _ (fun hc => ?_) (fun hc => ?_)
  · simp only [runT, hst, if_neg hc]
    rfl
  · subst hc
    simp only [if_true] at hgood hst
    have := ih (left.take kk ++ [⟨v, cOf pl⟩]) (by simp; omega) hgood
    simp only [List.map_append, List.map_take, List.map_cons, List.map_nil, toD_mk] at this
    simp only [runT, hst, if_true]
    exact this
theorem parts0 {x : Int} (h : x = 1 ∨ x = 2 ∨ x = 3) : partsOf x = 0 := if_pos h
theorem parts1 {x : Int} (h : 4 ≤ x ∧ x ≤ 8) : partsOf x = 1 := by
  unfold partsOf
  rw [if_neg (by omega), if_pos h]
theorem parts2 {x : Int} (h : 9 ≤ x ∧ x ≤ 17) : partsOf x = 2 := by
  unfold partsOf
  rw [if_neg (by omega), if_neg (by omega), if_pos h]
theorem partsN {x : Int} (h0 : ¬ (x = 1 ∨ x = 2 ∨ x = 3)) (h1 : ¬ (4 ≤ x ∧ x ≤ 8)) (h2 : ¬ (9 ≤ x ∧ x ≤ 17)) : partsOf x = -1 := by
  unfold partsOf
  rw [if_neg h0, if_neg h1, if_neg h2]
/-- A step, its node's parts being there. -/
theorem stepT_of (sy : List S52) (left : List S86) (n : S47) (m : Nat) (v code : Int) (pl : Bool) (hpn : partsOf n.f0 = (m : Int)) (hm : m ≤ left.length) (hnd : nodeT n left sy place early = (v, cOf pl, code)) :
    stepT sy place early left n = (if code = 0 then left.take (left.length - m) ++ [⟨v, cOf pl⟩] else left, code) := by
  unfold stepT
  rw [hpn, if_neg (by omega), hnd]
  simp
theorem cOf_dec {c : Int} (h : c = 0 ∨ c = 1) : cOf (decide (c = 1)) = c := by rcases h with rfl | rfl <;> rfl
theorem turnT_cls (kind v cls place : Int) (early : Bool) (hv : U32 v) : (turnT kind v cls place early).2.1 = 0 := by
  unfold turnT turnedF
  by_cases h6 : kind = 6
  · rw [if_pos h6, hi_eq v hv.1 hv.2]
    rfl
  by_cases h7 : kind = 7
  · rw [if_neg h6, if_pos h7, lo_eq v hv.1 hv.2]
    rfl
  rw [if_neg h6, if_neg h7]
  repeat' split
  all_goals rfl
theorem joinF_code (kind a ca b cb : Int) : 0 ≤ (joinF kind a ca b cb).2.2 := by
  unfold joinF
  repeat' split
  all_goals simp
theorem turnT_code (kind v cls place : Int) (early : Bool) (hv : U32 v) : 0 ≤ (turnT kind v cls place early).2.2 := by
  unfold turnT turnedF
  by_cases h6 : kind = 6
  · rw [if_pos h6, hi_eq v hv.1 hv.2]
    simp
  by_cases h7 : kind = 7
  · rw [if_neg h6, if_pos h7, lo_eq v hv.1 hv.2]
    simp
  rw [if_neg h6, if_neg h7]
  repeat' split
  all_goals simp
theorem l0_ev (hl : l.length ≤ 1000) (hsl : syms.length ≤ 1000) (hp : U32 place) (hs : ∀ s ∈ syms.map symOf, GoodS s) (hn : ∀ n ∈ l, U32 n.f3) : ∀ (d i : Nat) (left : List S86), i + d = l.length → left.length ≤ i → (∀ p ∈ left, GoodP p) →
    Ev (fun k => typecaseref12_Value.l0 k l syms place early (left.map toD) (i : Int)) (refEnd (finT l (runT (syms.map symOf) place early (l.drop i) left)))
  | 0, i, left, h, hll, hgl => by
    obtain rfl : i = l.length := by omega
    rw [List.drop_length]
    simp only [runT]
    refine Ev.step (f := fun _ => some (refEnd (finT l (left, none)))) (fun k => ?_) (Ev.now _)
    simp only [typecaseref12_Value.l0]
    rw [if_neg (by omega)]
    simp only [finT, List.length_map]
    by_cases h1 : left.length = 1
    · rw [if_pos (by omega), if_pos (by omega), if_pos h1]
      rw [rd55_toD (by omega) (by omega)]
      rfl
    · rw [if_neg (by omega), if_neg h1]
      by_cases h0 : l.length = 0
      · rw [if_pos (by omega), if_pos h0]
        rfl
      · have hw : wrap64 ((l.length : Int) - 1) = (l.length : Int) - 1 := by unfold wrap64; omega
        rw [if_neg (by omega), if_neg h0, hw, if_pos (by omega), if_pos (by omega)]
        rfl
  | d + 1, i, left, h, hll, hgl => by
    have hi : i < l.length := by omega
    have ih := fun left' h1 h2 => l0_ev hl hsl hp hs hn d (i + 1) left' (by omega) h1 h2
    have hx := rd47_eq' hi
    have hu : U32 (rd_T47 l (i : Int)).f3 := by rw [hx]; exact hn _ (List.getElem_mem hi)
    rw [List.drop_eq_getElem_cons hi, ← hx]
    have go := node_ev l syms place early hl hp hs hn i hi left hll hgl ih
    generalize hnn : rd_T47 l (i : Int) = n at go hu ⊢
    have hlen : ((left.map toD).length : Int) = (left.length : Int) := by simp
    have hr := Ev.step (g := fun k => typecaseref12_Value.l0 k l syms place early (left.map toD) (i : Int)) (r := refEnd (finT l (runT (syms.map symOf) place early (n :: l.drop (i + 1)) left))) (f := fun k => if n.f0 = 1 then (typecaseref12_Value.j4 k l syms place early (left.map toD) (i : Int) 0 (left.length : Int) n.f0 n.f1 n.f2 n.f3 n.f4 n.f3 false) else (if n.f0 = 2 then ((typecaseref12_find.f k syms n.f4).bind fun t168 => (if t168 < 0 then (typecaseref12_Value.j4 k l syms place early (left.map toD) (i : Int) 11 (left.length : Int) n.f0 n.f1 n.f2 n.f3 n.f4 0 false) else (if early = true then (if 0 ≤ t168 then (if t168 < (syms.length : Int) then (if ((rd_T49 syms t168).f2) = 0 then (typecaseref12_Value.j4 k l syms place early (left.map toD) (i : Int) 0 (left.length : Int) n.f0 n.f1 n.f2 n.f3 n.f4 ((rd_T49 syms t168).f1) (((rd_T49 syms t168).f2) != 0)) else (typecaseref12_Value.j4 k l syms place early (left.map toD) (i : Int) 7 (left.length : Int) n.f0 n.f1 n.f2 n.f3 n.f4 0 false)) else (none)) else (none)) else (if 0 ≤ t168 then (if t168 < (syms.length : Int) then (typecaseref12_Value.j4 k l syms place early (left.map toD) (i : Int) 0 (left.length : Int) n.f0 n.f1 n.f2 n.f3 n.f4 ((rd_T49 syms t168).f1) (((rd_T49 syms t168).f2) != 0)) else (none)) else (none))))) else (if n.f0 = 3 then (typecaseref12_Value.j1 k l syms place early (left.map toD) (i : Int) 0 (left.length : Int) early n.f0 n.f1 n.f2 n.f3 n.f4 0 false) else (typecaseref12_Value.j1 k l syms place early (left.map toD) (i : Int) 0 (left.length : Int) false n.f0 n.f1 n.f2 n.f3 n.f4 0 false)))) (fun k => by
      simp only [typecaseref12_Value.l0]
      rw [if_pos (by omega), if_pos (by omega), hnn, hlen])
    refine hr ?_
    clear hr
    by_cases k1 : n.f0 = 1
    · simp only [if_pos k1]
      refine go n.f3 0 false left.length (Nat.le_refl _) (Int.le_refl _) _ _ _ ?_
      have := stepT_of place early (syms.map symOf) left n 0 n.f3 0 false (parts0 (.inl k1)) (Nat.zero_le _) (by
        unfold nodeT plainF
        rw [if_pos (parts0 (.inl k1)), if_pos k1]
        rfl)
      simpa using this
    simp only [if_neg k1]
    by_cases k2 : n.f0 = 2
    · simp only [if_pos k2]
      refine Ev.bind (find_ev syms n.f4 hsl) ?_
      have hpn := parts0 (.inr (.inl k2))
      cases hsi : symIdx (syms.map symOf) n.f4 with
      | none =>
        rw [show idxInt none = -1 from rfl]
        simp only [show ((-1 : Int) < 0) by decide, if_true]
        refine go 0 11 false left.length (Nat.le_refl _) (by decide) _ _ _ ?_
        have := stepT_of place early (syms.map symOf) left n 0 0 11 false hpn (Nat.zero_le _) (by
          unfold nodeT plainF
          rw [if_pos hpn, if_neg k1, if_neg (by omega), hsi]
          rfl)
        simpa using this
      | some j =>
        have hjl := symIdx_lt hsi
        have hjl2 : j < syms.length := by simpa using hjl
        have hrd : rd_T52 (syms.map symOf) (j : Int) = symOf (rd_T49 syms (j : Int)) := by rw [rd52_eq hjl, rd49_eq' hjl2, List.getElem_map]
        rw [show idxInt (some j) = (j : Int) from rfl]
        simp only [if_neg (show ¬ ((j : Int) < 0) by omega), if_pos (show (0 : Int) ≤ (j : Int) by omega), if_pos (show (j : Int) < (syms.length : Int) by omega)]
        have hok : ∀ c : Int, (rd_T49 syms (j : Int)).f2 = c → (early = true → c = 0) → Ev (fun k => typecaseref12_Value.j4 k l syms place early (left.map toD) (i : Int) 0 (left.length : Int) n.f0 n.f1 n.f2 n.f3 n.f4 ((rd_T49 syms (j : Int)).f1) (c != 0)) (refEnd (finT l (runT (syms.map symOf) place early (n :: l.drop (i + 1)) left))) := by
          intro c hc he
          refine go _ 0 _ left.length (Nat.le_refl _) (by decide) _ _ _ ?_
          have := stepT_of place early (syms.map symOf) left n 0 (rd_T49 syms (j : Int)).f1 0 (c != 0) hpn (Nat.zero_le _) (by
            unfold nodeT plainF
            rw [if_pos hpn, if_neg k1, if_neg (by omega), hsi]
            simp only [hrd]
            by_cases hz : c = 0
            · rw [if_neg (by simp [symOf, hc, hz])]
              simp [symOf, hc, hz, cOf]
            · rw [if_neg (by intro hh; exact hz (he hh.2))]
              simp [symOf, hc, hz, cOf])
          simpa using this
        by_cases he : early = true
        · simp only [if_pos he]
          by_cases hz : (rd_T49 syms (j : Int)).f2 = 0
          · simp only [if_pos hz]
            exact hok _ rfl (fun _ => hz)
          · simp only [if_neg hz]
            refine go 0 7 false left.length (Nat.le_refl _) (by decide) _ _ _ ?_
            have := stepT_of place early (syms.map symOf) left n 0 0 7 false hpn (Nat.zero_le _) (by
              unfold nodeT plainF
              rw [if_pos hpn, if_neg k1, if_neg (by omega), hsi]
              simp only [hrd]
              rw [if_pos (by simp [symOf, hz, he])]
              rfl)
            simpa using this
        · simp only [if_neg he]
          exact hok _ rfl (fun hh => absurd hh he)
    simp only [if_neg k2]
    have hj1 : n.f0 ≠ 3 → Ev (fun k => typecaseref12_Value.j1 k l syms place early (left.map toD) (i : Int) 0 (left.length : Int) false n.f0 n.f1 n.f2 n.f3 n.f4 0 false) (refEnd (finT l (runT (syms.map symOf) place early (n :: l.drop (i + 1)) left))) := by
      intro k3
      have hw1 : 1 ≤ left.length → wrap64 ((left.length : Int) - 1) = ((left.length - 1 : Nat) : Int) := fun _ => by unfold wrap64; omega
      have hw2 : 2 ≤ left.length → wrap64 ((left.length : Int) - 2) = ((left.length - 2 : Nat) : Int) := fun _ => by unfold wrap64; omega
      have hbad : (partsOf n.f0 < 0 ∨ (left.length : Int) < partsOf n.f0) → Ev (fun k => typecaseref12_Value.j4 k l syms place early (left.map toD) (i : Int) 6 (left.length : Int) n.f0 n.f1 n.f2 n.f3 n.f4 0 false) (refEnd (finT l (runT (syms.map symOf) place early (n :: l.drop (i + 1)) left))) := by
        intro hb
        refine go 0 6 false left.length (Nat.le_refl _) (by decide) _ _ _ ?_
        unfold stepT
        rw [if_pos hb]
        rfl
      have hj3 : ¬ (4 ≤ n.f0 ∧ n.f0 ≤ 8 ∧ 1 ≤ left.length) → ∀ b : Bool, (b = true ↔ 9 ≤ n.f0 ∧ n.f0 ≤ 17 ∧ 2 ≤ left.length) → Ev (fun k => typecaseref12_Value.j3 k l syms place early (left.map toD) (i : Int) (left.length : Int) b n.f0 n.f1 n.f2 n.f3 n.f4 0 false) (refEnd (finT l (runT (syms.map symOf) place early (n :: l.drop (i + 1)) left))) := by
        intro hno b hb
        cases b with
        | false =>
          refine Ev.step (fun k => by simp only [typecaseref12_Value.j3]; rw [if_neg (by decide)]) (hbad ?_)
          have hb' : ¬ (9 ≤ n.f0 ∧ n.f0 ≤ 17 ∧ 2 ≤ left.length) := fun hh => by have := hb.2 hh; cases this
          by_cases c1 : 4 ≤ n.f0 ∧ n.f0 ≤ 8
          · right; rw [parts1 c1]; omega
          by_cases c2 : 9 ≤ n.f0 ∧ n.f0 ≤ 17
          · right; rw [parts2 c2]; omega
          · left; rw [partsN (by omega) c1 c2]; omega
        | true =>
          obtain ⟨b1, b2, b3⟩ := hb.1 rfl
          have hpn := parts2 ⟨b1, b2⟩
          have hg1 := good_rd hgl ((left.length : Int) - 1) (by omega) (by omega)
          have hg2 := good_rd hgl ((left.length : Int) - 2) (by omega) (by omega)
          have ht := two_ev n.f0 (rd_T86 left ((left.length : Int) - 2)).f0 (rd_T86 left ((left.length : Int) - 1)).f0 (toD (rd_T86 left ((left.length : Int) - 2))).f1 (toD (rd_T86 left ((left.length : Int) - 1))).f1 hg2.1 hg1.1 ⟨b1, b2⟩
          rw [cOf_toD hg1, cOf_toD hg2] at ht
          have hgj := joinF_good n.f0 (rd_T86 left ((left.length : Int) - 2)).f0 (rd_T86 left ((left.length : Int) - 2)).f1 (rd_T86 left ((left.length : Int) - 1)).f0 (rd_T86 left ((left.length : Int) - 1)).f1 hg2.1 hg1.1
          have hjc := joinF_code n.f0 (rd_T86 left ((left.length : Int) - 2)).f0 (rd_T86 left ((left.length : Int) - 2)).f1 (rd_T86 left ((left.length : Int) - 1)).f0 (rd_T86 left ((left.length : Int) - 1)).f1
          have hnd : nodeT n left (syms.map symOf) place early = joinF n.f0 (rd_T86 left ((left.length : Int) - 2)).f0 (rd_T86 left ((left.length : Int) - 2)).f1 (rd_T86 left ((left.length : Int) - 1)).f0 (rd_T86 left ((left.length : Int) - 1)).f1 := by
            unfold nodeT
            rw [hpn, if_neg (by decide), if_neg (by decide)]
          generalize joinF n.f0 (rd_T86 left ((left.length : Int) - 2)).f0 (rd_T86 left ((left.length : Int) - 2)).f1 (rd_T86 left ((left.length : Int) - 1)).f0 (rd_T86 left ((left.length : Int) - 1)).f1 = q at ht hgj hjc hnd
          obtain ⟨v, c, code⟩ := q
          simp only at ht hgj hjc hnd
          have hfin := go v code (decide (c = 1)) (left.length - 2) (Nat.sub_le _ _) hjc n.f0 n.f3 n.f4 (stepT_of place early (syms.map symOf) left n 2 v code (decide (c = 1)) (by rw [hpn]; rfl) b3 (by rw [hnd, cOf_dec hgj.2]))
          refine Ev.step (fun k => ?_) (Ev.bind (f := fun k bt => typecaseref12_Value.j4 k l syms place early (left.map toD) (i : Int) bt.2.2 ((left.length - 2 : Nat) : Int) n.f0 n.f1 n.f2 n.f3 n.f4 bt.1 bt.2.1) ht hfin)
          simp only [typecaseref12_Value.j3]
          rw [if_pos trivial, hw1 (by omega), hw2 b3, hlen, if_pos (by omega), if_pos (by omega), if_pos (by omega), if_pos (by omega), rd55_toD (by omega) (by omega), rd55_toD (by omega) (by omega)]
          rw [show ((left.length - 2 : Nat) : Int) = (left.length : Int) - 2 by omega, show ((left.length - 1 : Nat) : Int) = (left.length : Int) - 1 by omega]
          rfl
      have hj2f : ¬ (4 ≤ n.f0 ∧ n.f0 ≤ 8 ∧ 1 ≤ left.length) → Ev (fun k => typecaseref12_Value.j2 k l syms place early (left.map toD) (i : Int) (left.length : Int) false n.f0 n.f1 n.f2 n.f3 n.f4 0 false) (refEnd (finT l (runT (syms.map symOf) place early (n :: l.drop (i + 1)) left))) := by
        intro hno
        by_cases c9 : n.f0 ≥ 9
        · by_cases c17 : n.f0 ≤ 17
          · exact Ev.step (fun k => by simp only [typecaseref12_Value.j2]; rw [if_neg (by decide), if_pos c9, if_pos c17]) (hj3 hno (decide ((left.length : Int) ≥ 2)) (by simp; omega))
          · exact Ev.step (fun k => by simp only [typecaseref12_Value.j2]; rw [if_neg (by decide), if_pos c9, if_neg c17]) (hj3 hno false (by simp; omega))
        · exact Ev.step (fun k => by simp only [typecaseref12_Value.j2]; rw [if_neg (by decide), if_neg c9]) (hj3 hno false (by simp; omega))
      have hj2 : ∀ b : Bool, (b = true ↔ 4 ≤ n.f0 ∧ n.f0 ≤ 8 ∧ 1 ≤ left.length) → Ev (fun k => typecaseref12_Value.j2 k l syms place early (left.map toD) (i : Int) (left.length : Int) b n.f0 n.f1 n.f2 n.f3 n.f4 0 false) (refEnd (finT l (runT (syms.map symOf) place early (n :: l.drop (i + 1)) left))) := by
        intro b hb
        cases b with
        | false => exact hj2f (fun hh => by have := hb.2 hh; cases this)
        | true =>
          obtain ⟨b1, b2, b3⟩ := hb.1 rfl
          have hpn := parts1 ⟨b1, b2⟩
          have hg1 := good_rd hgl ((left.length : Int) - 1) (by omega) (by omega)
          have ht := one_ev n.f0 (rd_T86 left ((left.length : Int) - 1)).f0 place (toD (rd_T86 left ((left.length : Int) - 1))).f1 early hg1.1
          rw [cOf_toD hg1] at ht
          have hcl := turnT_cls n.f0 (rd_T86 left ((left.length : Int) - 1)).f0 (rd_T86 left ((left.length : Int) - 1)).f1 place early hg1.1
          have hjc := turnT_code n.f0 (rd_T86 left ((left.length : Int) - 1)).f0 (rd_T86 left ((left.length : Int) - 1)).f1 place early hg1.1
          have hnd : nodeT n left (syms.map symOf) place early = turnT n.f0 (rd_T86 left ((left.length : Int) - 1)).f0 (rd_T86 left ((left.length : Int) - 1)).f1 place early := by
            unfold nodeT
            rw [hpn, if_neg (by decide), if_pos rfl]
          generalize turnT n.f0 (rd_T86 left ((left.length : Int) - 1)).f0 (rd_T86 left ((left.length : Int) - 1)).f1 place early = q at ht hcl hjc hnd
          obtain ⟨v, c, code⟩ := q
          simp only at ht hcl hjc hnd
          subst hcl
          have hfin := go v code false (left.length - 1) (Nat.sub_le _ _) hjc n.f0 n.f3 n.f4 (stepT_of place early (syms.map symOf) left n 1 v code false (by rw [hpn]; rfl) b3 (by rw [hnd]; rfl))
          refine Ev.step (fun k => ?_) (Ev.bind (f := fun k bt => typecaseref12_Value.j4 k l syms place early (left.map toD) (i : Int) bt.2.2 ((left.length - 1 : Nat) : Int) n.f0 n.f1 n.f2 n.f3 n.f4 bt.1 bt.2.1) ht hfin)
          simp only [typecaseref12_Value.j2]
          rw [if_pos trivial, hw1 b3, hlen, if_pos (by omega), if_pos (by omega), rd55_toD (by omega) (by omega)]
          rw [show ((left.length - 1 : Nat) : Int) = (left.length : Int) - 1 by omega]
          rfl
      by_cases c4 : n.f0 ≥ 4
      · by_cases c8 : n.f0 ≤ 8
        · exact Ev.step (fun k => by simp only [typecaseref12_Value.j1]; rw [if_neg (by decide), if_neg k3, if_pos c4, if_pos c8]) (hj2 (decide ((left.length : Int) ≥ 1)) (by simp; omega))
        · exact Ev.step (fun k => by simp only [typecaseref12_Value.j1]; rw [if_neg (by decide), if_neg k3, if_pos c4, if_neg c8]) (hj2 false (by simp; omega))
      · exact Ev.step (fun k => by simp only [typecaseref12_Value.j1]; rw [if_neg (by decide), if_neg k3, if_neg c4]) (hj2 false (by simp; omega))
    by_cases k3 : n.f0 = 3
    · simp only [if_pos k3]
      have hpn := parts0 (.inr (.inr k3))
      cases early with
      | true =>
        refine Ev.step (fun k => by simp only [typecaseref12_Value.j1]; rw [if_pos trivial]) (go 0 7 false left.length (Nat.le_refl _) (by decide) n.f0 n.f3 n.f4 ?_)
        have := stepT_of place true (syms.map symOf) left n 0 0 7 false hpn (Nat.zero_le _) (by
          unfold nodeT plainF
          rw [if_pos hpn, if_neg k1, if_pos k3]
          rfl)
        simpa using this
      | false =>
        refine Ev.step (fun k => by simp only [typecaseref12_Value.j1]; rw [if_neg (by decide), if_pos k3]) (go place 0 true left.length (Nat.le_refl _) (by decide) n.f0 n.f3 n.f4 ?_)
        have := stepT_of place false (syms.map symOf) left n 0 place 0 true hpn (Nat.zero_le _) (by
          unfold nodeT plainF
          rw [if_pos hpn, if_neg k1, if_pos k3]
          rfl)
        simpa using this
    · simp only [if_neg k3]
      exact hj1 k3
theorem plainF_code (n : S47) (sy : List S52) : 0 ≤ (plainF n sy place early).2.2 ∧ (plainF n sy place early).2.2 ≤ 16 := by
  unfold plainF
  split
  · simp
  split
  · split <;> simp
  cases symIdx sy n.f4 with
  | none => simp
  | some i =>
    simp only
    split <;> simp
theorem joinF_code2 (kind a ca b cb : Int) : (joinF kind a ca b cb).2.2 ≤ 16 := by
  unfold joinF
  repeat' split
  all_goals simp
theorem turnT_code2 (kind v cls place : Int) (early : Bool) (hv : U32 v) : (turnT kind v cls place early).2.2 ≤ 16 := by
  unfold turnT turnedF
  by_cases h6 : kind = 6
  · rw [if_pos h6, hi_eq v hv.1 hv.2]
    simp
  by_cases h7 : kind = 7
  · rw [if_neg h6, if_pos h7, lo_eq v hv.1 hv.2]
    simp
  rw [if_neg h6, if_neg h7]
  repeat' split
  all_goals simp
theorem stepT_code (sy : List S52) (left : List S86) (n : S47) (hgl : ∀ p ∈ left, GoodP p) : 0 ≤ (stepT sy place early left n).2 ∧ (stepT sy place early left n).2 ≤ 16 := by
  unfold stepT
  by_cases hbad : partsOf n.f0 < 0 ∨ (left.length : Int) < partsOf n.f0
  · rw [if_pos hbad]
    simp
  rw [if_neg hbad]
  have hn1 : ¬ partsOf n.f0 < 0 := fun e => hbad (.inl e)
  have hn2 : ¬ (left.length : Int) < partsOf n.f0 := fun e => hbad (.inr e)
  show 0 ≤ (nodeT n left sy place early).2.2 ∧ (nodeT n left sy place early).2.2 ≤ 16
  unfold nodeT
  rcases parts_cases n.f0 with hq | hq | hq | hq
  · omega
  · simp only [if_pos hq]
    exact plainF_code place early n sy
  · simp only [hq, if_neg (show ¬ ((1 : Int) = 0) by decide), if_true]
    have hg := good_rd hgl ((left.length : Int) - 1) (by omega) (by omega)
    exact ⟨turnT_code _ _ _ _ _ hg.1, turnT_code2 _ _ _ _ _ hg.1⟩
  · simp only [hq, if_neg (show ¬ ((2 : Int) = 0) by decide), if_neg (show ¬ ((2 : Int) = 1) by decide)]
    exact ⟨joinF_code _ _ _ _ _, joinF_code2 _ _ _ _ _⟩
theorem runT_code (sy : List S52) (hp : U32 place) (hs : ∀ s ∈ sy, GoodS s) : ∀ (l : List S47) (left : List S86), (∀ n ∈ l, U32 n.f3) → (∀ p ∈ left, GoodP p) → ∀ x y z, (runT sy place early l left).2 = some (x, y, z) → 1 ≤ z ∧ z ≤ 16
  | [], left, _, _, x, y, z, h => by cases h
  | n :: t, left, hn, hgl, x, y, z, h => by
    have h2 := (step_eq sy place early left n (hn n (List.mem_cons_self ..)) hp hs hgl).2
    have hc := stepT_code place early sy left n hgl
    simp only [runT] at h
    split at h
    · exact runT_code sy hp hs t _ (fun m hm => hn m (List.mem_cons_of_mem _ hm)) h2 x y z h
    · simp only [Option.some.injEq, Prod.mk.injEq] at h
      omega
theorem valueT_code (sy : List S52) (hn : ∀ n ∈ l, U32 n.f3) (hp : U32 place) (hs : ∀ s ∈ sy, GoodS s) : ∀ x y z, (valueT l sy place early).2.2 = some (x, y, z) → 1 ≤ z ∧ z ≤ 16 := by
  intro x y z h
  rw [valueT_fin] at h
  unfold finT at h
  have hr := runT_code place early sy hp hs l [] hn (fun p hp => by cases hp)
  generalize runT sy place early l [] = r at h hr
  obtain ⟨left, f⟩ := r
  cases f with
  | some f =>
    simp only [Option.some.injEq] at h
    subst h
    exact hr x y z rfl
  | none =>
    simp only at h
    split at h
    · cases h
    · simp only [Option.some.injEq] at h
      split at h
      · simp only [Prod.mk.injEq] at h
        omega
      · simp only [Prod.mk.injEq] at h
        omega
/-- The document's answer. -/
theorem ref_ev (hl : l.length ≤ 1000) (hsl : syms.length ≤ 1000) (hp : U32 place) (hs : ∀ s ∈ syms.map symOf, GoodS s) (hn : ∀ n ∈ l, U32 n.f3) : ∃ k, typecaseref12_Value.f k l syms place early = some (refEnd (valueT l (syms.map symOf) place early)) := by
  have h := l0_ev l syms place early hl hsl hp hs hn l.length 0 [] (by omega) (Nat.zero_le _) (fun p hp => by cases hp)
  rw [valueT_fin]
  exact Ev.rounds h
end
theorem valueT_range (l : List S47) (syms : List S52) (place : Int) (early : Bool) (hp : U32 place) (hs : ∀ s ∈ syms, GoodS s) (hn : ∀ n ∈ l, U32 n.f3) : U32 (valueT l syms place early).1 ∧ ((valueT l syms place early).2.1 = 0 ∨ (valueT l syms place early).2.1 = 1) := by
  have hz : U32 0 := by unfold U32; omega
  have hg := (run_eq syms place early hp hs l [] hn (fun p hp => by cases hp)).2
  unfold valueT
  generalize runT syms place early l [] = r at hg
  obtain ⟨left, f⟩ := r
  cases f with
  | some f => exact ⟨hz, .inl rfl⟩
  | none =>
    show U32 (if left.length = 1 then _ else _ : Int × Int × Option (Int × Int × Int)).1 ∧ ((if left.length = 1 then _ else _ : Int × Int × Option (Int × Int × Int)).2.1 = 0 ∨ (if left.length = 1 then _ else _ : Int × Int × Option (Int × Int × Int)).2.1 = 1)
    by_cases h1 : left.length = 1
    · rw [if_pos h1]
      exact good_rd hg 0 (by decide) (by show (0 : Int) < (left.length : Int); omega)
    · rw [if_neg h1]
      exact ⟨hz, .inl rfl⟩
end Go.Proofs.YtgholjhcbhcicaaDoor.PAll
