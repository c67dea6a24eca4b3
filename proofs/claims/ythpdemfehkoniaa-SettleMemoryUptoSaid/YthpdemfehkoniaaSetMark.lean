/- markInts: rows of numbers, each marked, grown and read again, in a list of lists laid flat. Condition: at most 32 rows of at most 16 numbers. -/
import Derived.Test.YthpdemfehkoniaaFlat
import Derived.Test.YthpdemfehkoniaaSetGrPure
namespace Go.Proofs.YthpdemfehkoniaaW.AO
theorem AO.after {w : World} {base : Nat} {L : List Ob} (L1 : List Ob) (h : AO w base (L1 ++ L)) : AO w base L :=
  h.sub (fun i => L1.length + i) (fun i j _ _ e => by simpa using e) (fun i _ => by rw [List.getElem?_append_right (by omega)]; simp)
end Go.Proofs.YthpdemfehkoniaaW.AO
namespace Go.Proofs.Ythpdemfehkoniaa.PSet
open Go.RowKit Go.Proofs.YthpdemfehkoniaaW.PrintWords Go.Proofs.YthpdemfehkoniaaW.PrintLast Go.Proofs.YthpdemfehkoniaaW.PrintMore Go.Proofs.YthpdemfehkoniaaW.AO
set_option linter.unusedVariables false
set_option linter.unusedSimpArgs false
/-- The state of markInts: `long`, the heads, the rows, the rest. -/
def MS (w : World) (base g N c : Nat) (v3 : Value) (lg : List Int) (hs : List Value) (xs : List (List Int)) (L : List Ob) : Prop :=
  AO w base (⟨Kd.int .i64, 3, v3, lg⟩ :: heads 45 (.slice (some ⟨g, 0, none⟩) N c) hs :: (rowsOf (Kd.int .i64) 3 hs xs ++ L)) ∧ hs.length = N ∧ xs.length = N
section
variable {w w0 : World} {base g N c : Nat} {v3 : Value} {lg : List Int} {hs : List Value} {xs : List (List Int)} {L : List Ob}
theorem MS.at (h : MS w base g N c v3 lg hs xs L) (k : Nat) (hk : k < N) : ∃ u x, hs[k]? = some u ∧ xs[k]? = some x ∧ (⟨Kd.int .i64, 3, v3, lg⟩ :: heads 45 (.slice (some ⟨g, 0, none⟩) N c) hs :: (rowsOf (Kd.int .i64) 3 hs xs ++ L))[k + 2]? = some ⟨Kd.int .i64, 3, u, x⟩ := by
  obtain ⟨_, h1, h2⟩ := h
  obtain ⟨u, hu⟩ : ∃ u, hs[k]? = some u := ⟨hs[k]'(by omega), List.getElem?_eq_getElem _⟩
  obtain ⟨x, hx⟩ : ∃ x, xs[k]? = some x := ⟨xs[k]'(by omega), List.getElem?_eq_getElem _⟩
  exact ⟨u, x, hu, hx, by rw [show k + 2 = (k + 1) + 1 from rfl, List.getElem?_cons_succ]; exact rowsOf_at k hu hx⟩
/-- A row: its head's cell, its value. -/
theorem MS.row (h : MS w base g N c v3 lg hs xs L) (k : Nat) (hk : k < N) : ∃ A c', w.cell? ⟨g, k, none⟩ = some (.slice A (xs.getD k []).length c') ∧ w.frozen? ⟨g, k, none⟩ = false ∧ (xs.getD k []).length ≤ c' ∧ (Kd.int .i64).C w A (xs.getD k []).length (xs.getD k []) ∧
    (⟨Kd.int .i64, 3, v3, lg⟩ :: heads 45 (.slice (some ⟨g, 0, none⟩) N c) hs :: (rowsOf (Kd.int .i64) 3 hs xs ++ L))[k + 2]? = some ⟨Kd.int .i64, 3, .slice A (xs.getD k []).length c', xs.getD k []⟩ := by
  obtain ⟨u, x, hu, hx, hi⟩ := h.at k hk
  obtain ⟨_, h1, h2⟩ := h.1.tail.head k hk
  have e1 : hs.getD k Go.undef = u := by rw [List.getD_eq_getElem?_getD, hu]; rfl
  have e2 : xs.getD k [] = x := by rw [List.getD_eq_getElem?_getD, hx]; rfl
  rw [e1] at h1
  obtain ⟨A, c', rfl, hl, hC⟩ := h.1.reads hi
  rw [e2]
  exact ⟨A, c', h1, h2, hl, hC, hi⟩
theorem MS.drewN (h : MS w base g N c v3 lg hs xs L) (m : Nat) : MS (w.drewN m) base g N c v3 lg hs xs L := ⟨h.1.drewN m, h.2⟩
theorem MS.setRow (k : Nat) (hk : k < N) (hl : hs.length = N) (hx : xs.length = N) (u : Value) (x : List Int) (V : Value) :
    (⟨Kd.int .i64, 3, v3, lg⟩ :: heads 45 V hs :: (rowsOf (Kd.int .i64) 3 hs xs ++ L)).set (k + 2) ⟨Kd.int .i64, 3, u, x⟩ = ⟨Kd.int .i64, 3, v3, lg⟩ :: heads 45 V hs :: (rowsOf (Kd.int .i64) 3 (hs.set k u) (xs.set k x) ++ L) := by
  rw [show k + 2 = (k + 1) + 1 from rfl, List.set_cons_succ, List.set_cons_succ, rowsOf_set k (by omega) (by omega)]
/-- A number stored into a row. -/
theorem MS.store (h : MS w base g N c v3 lg hs xs L) (HB : Below base w0 w) (k : Nat) (hk : k < N) (j : Nat) (hj : j < (xs.getD k []).length) (y : Int) :
    ∃ g2 c', w.cell? ⟨g, k, none⟩ = some (.slice (some ⟨g2, 0, none⟩) (xs.getD k []).length c') ∧ w.cell? ⟨g2, j, none⟩ = some (.int .i64 ((xs.getD k []).getD j 0)) ∧ w.frozen? ⟨g2, j, none⟩ = false ∧
      MS (w.setCell ⟨g2, j, none⟩ (.int .i64 y)) base g N c v3 lg hs (xs.set k ((xs.getD k []).set j y)) L ∧ Below base w0 (w.setCell ⟨g2, j, none⟩ (.int .i64 y)) := by
  obtain ⟨u, x, hu, hx, hi⟩ := h.at k hk
  have e2 : xs.getD k [] = x := by rw [List.getD_eq_getElem?_getD, hx]; rfl
  have e1 : hs.getD k Go.undef = u := by rw [List.getD_eq_getElem?_getD, hu]; rfl
  obtain ⟨_, h1, h2⟩ := h.1.tail.head k hk
  rw [e1] at h1
  rw [e2] at hj ⊢
  obtain ⟨g2, c', rfl, _⟩ := h.1.form hi (by omega)
  have hg := h.1.get1 (enc := Value.int .i64) (hone := fun _ => rfl) hi 0 (j : Int) (by omega) (by omega)
  have hp := h.1.put1 (enc := Value.int .i64) (hone := fun _ => rfl) hi (j : Int) y HB
  rw [Int.toNat_natCast] at hg hp
  refine ⟨g2, c', h1, ?_, hg.2, ⟨?_, h.2.1, by rw [List.length_set]; exact h.2.2⟩, hp.2.2.2⟩
  · have := hg.1
    simpa [rdOf] using this
  · have h3 := hp.1
    have h4 := MS.setRow (v3 := v3) (lg := lg) (L := L) k hk h.2.1 h.2.2 (.slice (some ⟨g2, 0, none⟩) x.length c') (x.set j y) (.slice (some ⟨g, 0, none⟩) N c)
    have h5 : hs.set k (.slice (some ⟨g2, 0, none⟩) x.length c') = hs := by
      apply List.ext_getElem?
      intro i
      rw [List.getElem?_set]
      by_cases hki : k = i
      · subst hki; rw [if_pos rfl, hu]; simp [(List.getElem?_eq_some_iff.1 hu).1]
      · rw [if_neg hki]
    rw [h5] at h4
    exact h4 ▸ h3
/-- A head stored, behind an append to its row (AO.append's own state). -/
theorem MS.store_head {k : Nat} {u : Value} {x : List Int} (h : AO w base ((⟨Kd.int .i64, 3, v3, lg⟩ :: heads 45 (.slice (some ⟨g, 0, none⟩) N c) hs :: (rowsOf (Kd.int .i64) 3 hs xs ++ L)).set (k + 2) ⟨Kd.int .i64, 3, u, x⟩)) (hl : hs.length = N) (hx : xs.length = N) (hk : k < N) (hu : u.oneCell' = true) (HB : Below base w0 w) :
    MS (w.setCell ⟨g, k, none⟩ u) base g N c v3 lg (hs.set k u) (xs.set k x) L ∧ Below base w0 (w.setCell ⟨g, k, none⟩ u) ∧ w.cell? ⟨g, k, none⟩ = some (hs.getD k Go.undef) ∧ w.frozen? ⟨g, k, none⟩ = false := by
  rw [MS.setRow k hk hl hx] at h
  have h1 := h.tail.head k hk
  refine ⟨⟨?_, by rw [List.length_set]; exact hl, by rw [List.length_set]; exact hx⟩, HB.setCell (Kd.R_base (h.own (i := 1) rfl) g rfl) _, h1.2.1, h1.2.2⟩
  have h2 := h.put (i := 1) rfl [Go.undef] (k : Int) (by omega) (by omega) (x' := [u]) (seg := [u]) rfl ⟨rfl, rfl, fun q hq => by rw [List.mem_singleton.1 hq]; exact hu⟩
  have e1 : (hs.map fun u => [u]).set k [u] = (hs.set k u).map fun u => [u] := by rw [List.map_set]
  rw [Int.toNat_natCast, e1] at h2
  simpa [Kd.raw, World.setCells, heads] using h2
end
/-! what the rows hold -/
theorem getD_set2 (ys : List (List Int)) (k q : Nat) (x : List Int) (hk : k < ys.length) : (ys.set k x).getD q [] = if k = q then x else ys.getD q [] := by
  rw [List.getD_eq_getElem?_getD, List.getElem?_set, List.getD_eq_getElem?_getD]
  by_cases h : k = q
  · subst h; simp [hk]
  · simp [h]
theorem getD_setI (x : List Int) (i j : Nat) (y : Int) (hi : i < x.length) : (x.set i y).getD j 0 = if i = j then y else x.getD j 0 := by
  rw [List.getD_eq_getElem?_getD, List.getElem?_set, List.getD_eq_getElem?_getD]
  by_cases h : i = j
  · subst h; simp [hi]
  · simp [h]
def Marked (xs0 ys : List (List Int)) (k i : Nat) : Prop := ys.length = xs0.length ∧ (∀ q, (ys.getD q []).length = (xs0.getD q []).length) ∧
  ∀ q j, (q < k ∨ q = k ∧ j < i) → j < (xs0.getD q []).length → (ys.getD q []).getD j 0 = 1000 * (q : Int) + j
theorem Marked.start (xs : List (List Int)) : Marked xs xs 0 0 := ⟨rfl, fun _ => rfl, fun q j h => by omega⟩
theorem Marked.put {xs0 ys : List (List Int)} {k i : Nat} (h : Marked xs0 ys k i) (hk : k < xs0.length) (hi : i < (xs0.getD k []).length) : Marked xs0 (ys.set k ((ys.getD k []).set i (1000 * (k : Int) + i))) k (i + 1) := by
  obtain ⟨h1, h2, h3⟩ := h
  refine ⟨by rw [List.length_set]; exact h1, fun q => ?_, fun q j hq hj => ?_⟩
  · rw [getD_set2 _ _ _ _ (by omega)]
    by_cases hkq : k = q
    · subst hkq; rw [if_pos rfl, List.length_set]; exact h2 k
    · rw [if_neg hkq]; exact h2 q
  · rw [getD_set2 _ _ _ _ (by omega)]
    by_cases hkq : k = q
    · subst hkq
      rw [if_pos rfl, getD_setI _ _ _ _ (by rw [h2]; exact hi)]
      by_cases hij : i = j
      · subst hij; rw [if_pos rfl]
      · rw [if_neg hij]; exact h3 k j (by omega) hj
    · rw [if_neg hkq]; exact h3 q j (by omega) hj
theorem Marked.next {xs0 ys : List (List Int)} {k : Nat} (h : Marked xs0 ys k (xs0.getD k []).length) : Marked xs0 ys (k + 1) 0 := by
  obtain ⟨h1, h2, h3⟩ := h
  refine ⟨h1, h2, fun q j hq hj => ?_⟩
  rcases Nat.lt_or_ge q k with h | h
  · exact h3 q j (Or.inl h) hj
  · obtain rfl : q = k := by omega
    exact h3 q j (Or.inr ⟨rfl, hj⟩) hj
def lens (xs : List (List Int)) : List Int := xs.map fun x => (x.length : Int)
theorem lens_getD (xs : List (List Int)) (q : Nat) (h : q < xs.length) : (lens xs).getD q 0 = ((xs.getD q []).length : Int) := by
  unfold lens
  rw [List.getD_eq_getElem?_getD, List.getElem?_map, List.getD_eq_getElem?_getD, List.getElem?_eq_getElem h]
  rfl
theorem lens_snoc (xs : List (List Int)) (k : Nat) (h : k < xs.length) : (lens xs).take k ++ [((xs.getD k []).length : Int)] = (lens xs).take (k + 1) := by
  unfold lens
  have h2 : k < (xs.map fun x => (x.length : Int)).length := by rw [List.length_map]; exact h
  rw [List.take_succ_eq_append_getElem h2]
  simp [List.getD_eq_getElem?_getD, List.getElem?_eq_getElem h]
def Grew (xs0 zs : List (List Int)) (k m : Nat) : Prop := zs.length = xs0.length ∧ ∀ q, q < xs0.length →
  (zs.getD q []).length = (xs0.getD q []).length + (if q < k then 96 else if q = k then m else 0) ∧ (∀ j, j < (xs0.getD q []).length → (zs.getD q []).getD j 0 = 1000 * (q : Int) + j) ∧
    ∀ i, i < 16 → (xs0.getD q []).length + i < (zs.getD q []).length → (zs.getD q []).getD ((xs0.getD q []).length + i) 0 = -1 - 1000 * (q : Int) - i
theorem Grew.start {xs0 zs : List (List Int)} (h : Marked xs0 zs xs0.length 0) : Grew xs0 zs 0 0 := by
  refine ⟨h.1, fun q hq => ⟨?_, fun j hj => h.2.2 q j (Or.inl hq) hj, fun i hi hl => ?_⟩⟩
  · rw [h.2.1 q, if_neg (by omega)]; split <;> omega
  · rw [h.2.1 q] at hl; omega
theorem getD_snoc (x : List Int) (y : Int) (j : Nat) : (x ++ [y]).getD j 0 = if j < x.length then x.getD j 0 else if j = x.length then y else 0 := by
  rw [List.getD_eq_getElem?_getD, List.getD_eq_getElem?_getD]
  by_cases h : j < x.length
  · rw [if_pos h, List.getElem?_append_left h]
  · rw [if_neg h, List.getElem?_append_right (by omega)]
    by_cases h2 : j = x.length
    · rw [if_pos h2, h2]; simp
    · rw [if_neg h2, List.getElem?_eq_none (by simp; omega)]; rfl
theorem Grew.snoc {xs0 zs : List (List Int)} {k m : Nat} (h : Grew xs0 zs k m) (hk : k < xs0.length) (y : Int) (hy : m < 16 → y = -1 - 1000 * (k : Int) - m) : Grew xs0 (zs.set k (zs.getD k [] ++ [y])) k (m + 1) := by
  obtain ⟨h1, h2⟩ := h
  refine ⟨by rw [List.length_set]; exact h1, fun q hq => ?_⟩
  rw [getD_set2 _ _ _ _ (by omega)]
  obtain ⟨h3, h4, h5⟩ := h2 q hq
  by_cases hkq : k = q
  · subst hkq
    rw [if_neg (by omega), if_pos rfl] at h3
    rw [if_pos rfl]
    refine ⟨?_, fun j hj => ?_, fun i hi hl => ?_⟩
    · rw [List.length_append, h3, if_neg (by omega), if_pos rfl]; simp; omega
    · rw [getD_snoc, if_pos (by omega)]; exact h4 j hj
    · rw [List.length_append, List.length_singleton] at hl
      rw [getD_snoc]
      by_cases hi2 : (xs0.getD k []).length + i < (zs.getD k []).length
      · rw [if_pos hi2]; exact h5 i hi hi2
      · rw [if_neg hi2, if_pos (by omega)]
        have : i = m := by omega
        subst this
        exact hy hi
  · rw [if_neg hkq]
    refine ⟨?_, h4, h5⟩
    have hkq2 : ¬ q = k := fun e => hkq e.symm
    rw [h3]
    simp only [hkq2, if_false]
theorem Grew.next {xs0 zs : List (List Int)} {k : Nat} (h : Grew xs0 zs k 96) : Grew xs0 zs (k + 1) 0 := by
  refine ⟨h.1, fun q hq => ?_⟩
  obtain ⟨h3, h4, h5⟩ := h.2 q hq
  refine ⟨?_, h4, h5⟩
  rw [h3]
  split
  · rw [if_pos (by omega)]
  · split
    · rw [if_pos (by omega)]
    · rw [if_neg (by omega)]
      split <;> rfl
end Go.Proofs.Ythpdemfehkoniaa.PSet
