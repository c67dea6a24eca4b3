/- One pair more: what each row of Reach becomes. Plain lists, no memory. -/
import Derived.Test.YthpdemfehkoniaaSetPure2
import Derived.Test.YthpdemfehkoniaaSet5
namespace Go.Proofs.Ythpdemfehkoniaa.PSet
open Go.RowKit Go.Proofs.YthpdemfehkoniaaW.PrintWords Go.Proofs.YthpdemfehkoniaaW.PrintLast Go.Proofs.YthpdemfehkoniaaW.PrintMore
set_option linter.unusedVariables false

theorem has_l0 (l : List Int) (x : Int) (hl : l.length ≤ 9000000000000000000) : ∀ (d k : Nat) (i : Nat), l.length - i = d → i ≤ l.length → d < k → barrowlaw26_has.l0 k x l (l.length : Int) (i : Int) = some (decide (x ∈ l.drop i)) := by
  intro d
  induction d with
  | zero =>
    intro k i h1 h2 h3
    obtain ⟨k, rfl⟩ : ∃ m, k = m + 1 := ⟨k - 1, by omega⟩
    simp only [barrowlaw26_has.l0]; rw [if_neg (by omega), List.drop_eq_nil_of_le (by omega)]
    simp
  | succ d ih =>
    intro k i h1 h2 h3
    obtain ⟨k, rfl⟩ : ∃ m, k = m + 1 := ⟨k - 1, by omega⟩
    simp only [barrowlaw26_has.l0]
    have hi : i < l.length := by omega
    have e : rd l (i : Int) = l[i] := by simp [rd, List.getD_eq_getElem?_getD, List.getElem?_eq_getElem hi]
    rw [if_pos (by omega), if_pos (by omega), if_pos (by omega), e, List.drop_eq_getElem_cons hi]
    by_cases h : l[i] = x
    · rw [if_pos h]; simp [h]
    · rw [if_neg h, wrap_next (by omega) hl, ih k (i + 1) (by omega) (by omega) (by omega)]
      congr 1
      apply decide_eq_decide.mpr
      rw [List.mem_cons]
      constructor
      · exact Or.inr
      · rintro (h2 | h2)
        · exact absurd h2.symm h
        · exact h2
theorem has_eq (l : List Int) (x : Int) (hl : l.length ≤ 9000000000000000000) : barrowlaw26_has.f (l.length + 1) l x = some (decide (x ∈ l)) := by
  unfold barrowlaw26_has.f
  have h := has_l0 l x hl l.length (l.length + 1) 0 (by omega) (by omega) (by omega)
  simpa using h
theorem mem_rowOf (n m j : Nat) (hj : j < n) : ((j : Int) ∈ rowOf n m) ↔ m.testBit j = true := by
  unfold rowOf
  rw [List.mem_map]
  constructor
  · rintro ⟨a, ha, e⟩
    rw [List.mem_filter] at ha
    have : a = j := by have e' : (a : Int) = (j : Int) := e; omega
    rw [← this]; exact ha.2
  · intro h
    exact ⟨j, List.mem_filter.mpr ⟨List.mem_range.mpr hj, h⟩, rfl⟩
theorem has_row (n m j : Nat) (hj : j < n) (hn : n ≤ 16) : barrowlaw26_has.f ((rowOf n m).length + 1) (rowOf n m) (j : Int) = some (m.testBit j) := by
  rw [has_eq _ _ (by have := rowOf_len n m; omega)]
  congr 1
  cases h : m.testBit j
  · exact decide_eq_false (fun h2 => by rw [mem_rowOf n m j hj, h] at h2; exact absurd h2 (by decide))
  · exact decide_eq_true ((mem_rowOf n m j hj).mpr h)
/-- the bits of the replica r behind the pairs l -/
def gm (n : Nat) (l : List S26) (r : Nat) : Nat := (msAll n l).getD r 0
theorem gr_row (n : Nat) (hn : n ≤ 16) (l : List S26) (i : Nat) (hi : i < n) : rd_L2 (rOut n (l.map toRef) n) (i : Int) = rowOf n (gm n l i) := by
  rw [same_reach n hn]
  unfold rd_L2 gm
  rw [Int.toNat_natCast, List.getD_eq_getElem?_getD, List.getElem?_map, List.getD_eq_getElem?_getD, List.getElem?_eq_getElem (by rw [msAll_len]; exact hi)]
  rfl
theorem gm_self (n : Nat) (l : List S26) (r : Nat) (h : r < n) : (gm n l r).testBit r = true := fold_keeps (n : Int) l (ms0 n) r r (ms0_self n r h)
theorem gm_snoc (n : Nat) (l : List S26) (p : S26) (r : Nat) : gm n (l ++ [p]) r = (msStep (n : Int) (msAll n l) p).getD r 0 := by
  unfold gm msAll
  rw [List.foldl_append]
  rfl
/-- the pair counts -/
def goodB (n : Nat) (p : S26) : Bool := inN (n : Int) p && (p.f0 != p.f1)
theorem gm_other (n : Nat) (l : List S26) (p : S26) (r : Nat) (h : goodB n p = false ∨ (r : Int) ≠ p.f1) : gm n (l ++ [p]) r = gm n l r := by
  rw [gm_snoc]
  unfold msStep
  by_cases hi : inN (n : Int) p = true
  · rw [if_pos hi, getD_set]
    by_cases hr : p.f1.toNat = r ∧ r < (msAll n l).length
    · rw [if_pos hr]
      have hp : p.f1 = (r : Int) := by
        simp only [inN, Bool.and_eq_true, decide_eq_true_eq] at hi
        omega
      have he : p.f0 = p.f1 := by
        rcases h with h | h
        · simp only [goodB, hi, Bool.true_and, bne_eq_false_iff_eq] at h; exact h
        · exact absurd hp.symm h
      rw [he, hr.1]
      show gm n l r ||| gm n l r = gm n l r
      exact Nat.or_self _
    · rw [if_neg hr]; rfl
  · rw [if_neg hi]; rfl
theorem gm_heard (n : Nat) (l : List S26) (p : S26) (h : goodB n p = true) : gm n (l ++ [p]) p.f1.toNat = gm n l p.f1.toNat ||| gm n l p.f0.toNat := by
  rw [gm_snoc]
  simp only [goodB, Bool.and_eq_true] at h
  unfold msStep
  rw [if_pos h.1, getD_set]
  have hi := h.1
  simp only [inN, Bool.and_eq_true, decide_eq_true_eq] at hi
  rw [if_pos ⟨rfl, by rw [msAll_len]; omega⟩]
  rfl
theorem good_open (n : Nat) (p : S26) (h : goodB n p = true) : 0 ≤ p.f0 ∧ p.f0 < (n : Int) ∧ 0 ≤ p.f1 ∧ p.f1 < (n : Int) := by
  simp only [goodB, inN, Bool.and_eq_true, decide_eq_true_eq] at h
  exact ⟨h.1.1.1.1, h.1.1.1.2, h.1.1.2, h.1.2⟩
theorem row_snoc (j a b : Nat) : rowOf (j + 1) (a ||| b) = if (a.testBit j || b.testBit j) = true then rowOf j (a ||| b) ++ [(j : Int)] else rowOf j (a ||| b) := by
  rw [rowOf_succ, Nat.testBit_or]
end Go.Proofs.Ythpdemfehkoniaa.PSet
