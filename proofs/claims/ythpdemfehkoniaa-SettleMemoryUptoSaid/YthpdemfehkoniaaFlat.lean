/- A list of lists whose rows are the call's own, laid flat: the heads as one row of cells, each row by itself. No condition. -/
import Derived.Test.YthpdemfehkoniaaAO
namespace Go.Proofs.YthpdemfehkoniaaW.AO
open Go.RowKit Go.Proofs.YthpdemfehkoniaaW.PrintWords Go.Proofs.YthpdemfehkoniaaW.PrintLast Go.Proofs.YthpdemfehkoniaaW.PrintMore
set_option linter.unusedVariables false

/-- The heads of a list of lists. -/
def heads (e : Nat) (v : Value) (hs : List Value) : Ob := ⟨Kd.raw 1, e, v, hs.map fun u => [u]⟩
/-- Its rows, one by one. -/
def rowsOf {α : Type} (d : Kd α) (e : Nat) (hs : List Value) (xs : List (List α)) : List Ob := List.zipWith (fun u x => ⟨d, e, u, x⟩) hs xs
section
variable {α : Type} {w w1 : World} {base : Nat} {L : List Ob} {d1 : Kd α} {e1 e : Nat} {v : Value} {xs : List (List α)} {ok : Nat → Prop}
theorem AO.flat (h : AO w base L) (hb : Below w.heap.size w w1) (hB : base ≤ w.heap.size) (hS : Kd.S (Kd.slice e1 d1) e w1 w.heap.size ok v xs) :
    ∃ hs : List Value, hs.length = xs.length ∧ AO w1 base (heads e v hs :: (rowsOf d1 e1 hs xs ++ L)) := by
  obtain ⟨f, h⟩ := h
  obtain ⟨F, hR⟩ := hS
  have hR' := Kd.R_bound hR
  obtain ⟨h0, inner, ho, hr⟩ := hR'
  have hlen : inner.length = xs.length := by
    have h2 := hr.1
    rw [List.length_zipIdx] at h2
    simpa [Kd.tag, Kd.slice] using h2
  have hrow : ∀ q x, xs[q]? = some x → ∃ u, inner[q]? = some u ∧ d1.R e1 w1 w.heap.size (fun b => ((ok b ∧ w.heap.size ≤ b) ∧ some b ≠ v.ownBlock) ∧ F b = q) u x := by
    intro q x hq
    have h2 := hr.2 q (x, q) (Kd.zip_at hq)
    obtain ⟨u, hu, hRu⟩ := h2
    have hu' : (inner.drop q).take 1 = [u] := by simpa [Kd.tag, Kd.slice] using hu
    refine ⟨u, ?_, Kd.R_mono hRu (fun k hk => ⟨⟨⟨hk.1.1.1, hk.1.1.2.1⟩, hk.1.2⟩, hk.2⟩)⟩
    have h3 : ((inner.drop q).take 1)[0]? = some u := by rw [hu']; rfl
    simpa using h3
  refine ⟨inner, hlen, fun b => if b < w.heap.size then f b + 1 + xs.length else if some b = v.ownBlock then 0 else F b + 1, ?_⟩
  intro i o hi
  match i with
  | 0 =>
    obtain rfl : heads e v inner = o := by simpa using hi
    refine ⟨fun k hk => ?_, inner, ?_, ?_⟩
    · have h2 := (h0 k hk).2.1
      simp only
      have hk2 : some k = v.ownBlock := hk.symm
      rw [if_neg (by omega), if_pos hk2]
    · have h2 := own_weaken ho hB
      rw [List.length_zipIdx] at h2
      simpa [heads, Kd.tag, Kd.slice, Kd.raw, hlen] using h2
    · refine ⟨by simp [heads, Kd.raw], fun j p hj => ?_⟩
      have hj' : (inner.map fun u => [u])[j]? = some p := hj
      rw [List.getElem?_map] at hj'
      obtain ⟨u, hu, rfl⟩ := Option.map_eq_some_iff.1 hj'
      have hjl : j < inner.length := (List.getElem?_eq_some_iff.1 hu).1
      obtain ⟨x, hx⟩ : ∃ x, xs[j]? = some x := ⟨xs[j]'(by omega), List.getElem?_eq_getElem _⟩
      obtain ⟨u2, hu2, hRu⟩ := hrow j x hx
      rw [hu] at hu2
      obtain rfl : u = u2 := Option.some.inj hu2
      have hc : (inner.drop (j * 1)).take 1 = [u] := by
        rw [Nat.mul_one, List.drop_eq_getElem_cons hjl, List.take_succ_cons, List.take_zero]
        rw [List.getElem?_eq_getElem hjl] at hu
        rw [Option.some.inj hu]
      have hg : ∀ c : List Value, c = [u] → (Kd.raw 1).M w1 base (fun _ => True) [u] c := by
        rintro c rfl
        exact ⟨rfl, rfl, fun q hq => by rw [List.mem_singleton.1 hq]; exact (Kd.R_val hRu).2⟩
      exact hg _ hc
  | i + 1 =>
    rw [List.getElem?_cons_succ] at hi
    by_cases hlt : i < (rowsOf d1 e1 inner xs).length
    · rw [List.getElem?_append_left hlt] at hi
      unfold rowsOf at hi hlt
      rw [List.getElem?_zipWith] at hi
      rw [List.length_zipWith] at hlt
      obtain ⟨x, hx⟩ : ∃ x, xs[i]? = some x := ⟨xs[i]'(by omega), List.getElem?_eq_getElem _⟩
      obtain ⟨u, hu, hRu⟩ := hrow i x hx
      rw [hu, hx] at hi
      obtain rfl : (⟨d1, e1, u, x⟩ : Ob) = o := by simpa using hi
      refine Kd.R_mono (Kd.R_lower hRu hB) (fun k hk => ?_)
      simp only
      rw [if_neg (by omega), if_neg hk.1.2, hk.2]
    · rw [List.getElem?_append_right (by omega)] at hi
      have hl : (rowsOf d1 e1 inner xs).length = xs.length := by unfold rowsOf; rw [List.length_zipWith]; omega
      rw [hl] at hi hlt
      have h2 := h _ o hi
      refine Kd.R_mono (Kd.R_below (Kd.R_bound h2) hb) (fun k hk => ?_)
      simp only
      rw [if_pos hk.2.2.1, hk.1]
      omega
end
section
variable {α : Type} {W w0 : World} {base : Nat} {L : List Ob} {d : Kd α} {e1 e g n cap : Nat} {hs : List Value} {v : Value} {xs : List (List α)}
theorem rowsOf_len (h : hs.length = xs.length) : (rowsOf d e1 hs xs).length = xs.length := by unfold rowsOf; rw [List.length_zipWith]; omega
theorem rowsOf_at (k : Nat) {u : Value} {x : List α} (hu : hs[k]? = some u) (hx : xs[k]? = some x) : (heads e v hs :: (rowsOf d e1 hs xs ++ L))[k + 1]? = some ⟨d, e1, u, x⟩ := by
  rw [List.getElem?_cons_succ]
  have h1 : (rowsOf d e1 hs xs)[k]? = some ⟨d, e1, u, x⟩ := by unfold rowsOf; rw [List.getElem?_zipWith, hu, hx]
  rw [List.getElem?_append_left (List.getElem?_eq_some_iff.1 h1).1, h1]
theorem rowsOf_set (k : Nat) (hk : k < xs.length) (hl : hs.length = xs.length) (u : Value) (x : List α) : (rowsOf d e1 hs xs ++ L).set k ⟨d, e1, u, x⟩ = rowsOf d e1 (hs.set k u) (xs.set k x) ++ L := by
  rw [List.set_append_left _ _ (by rw [rowsOf_len hl]; exact hk)]
  congr 1
  unfold rowsOf
  apply List.ext_getElem?
  intro i
  rw [List.getElem?_set, List.getElem?_zipWith, List.getElem?_zipWith, List.getElem?_set, List.getElem?_set, List.length_zipWith]
  by_cases h : k = i
  · subst h
    simp [hl, hk]
  · simp [h]
theorem AO.head (h : AO W base (heads e (.slice (some ⟨g, 0, none⟩) n cap) hs :: L)) (k : Nat) (hk : k < n) : n = hs.length ∧ W.cell? ⟨g, k, none⟩ = some (hs.getD k Go.undef) ∧ W.frozen? ⟨g, k, none⟩ = false := by
  have hn : n = hs.length := by
    have := h.len (i := 0) rfl
    simpa [heads] using this
  obtain ⟨c, hc, hM, hcc, hf⟩ := h.elem (i := 0) rfl [Go.undef] (k : Int) (by omega) (by omega)
  rw [Int.toNat_natCast] at hM hcc hf
  obtain ⟨rfl, _, _⟩ := hM
  have e : (hs.map fun u => [u]).getD k [Go.undef] = [hs.getD k Go.undef] := by
    rw [List.getD_eq_getElem?_getD, List.getElem?_map, List.getD_eq_getElem?_getD]
    cases hs[k]? <;> rfl
  rw [e] at hcc
  have h0 := hcc 0 _ rfl
  have h1 := hf 0
  simp only [Nat.add_zero, Kd.raw, Nat.mul_one] at h0 h1
  exact ⟨hn, h0, h1⟩
theorem AO.putHead (h : AO W base (heads e (.slice (some ⟨g, 0, none⟩) n cap) hs :: L)) (k : Nat) (hk : k < n) (u : Value) (hu : u.oneCell' = true) (HB : Below base w0 W) :
    AO (W.setCell ⟨g, k, none⟩ u) base (heads e (.slice (some ⟨g, 0, none⟩) n cap) (hs.set k u) :: L) ∧ Below base w0 (W.setCell ⟨g, k, none⟩ u) := by
  have h2 := h.put (i := 0) rfl [Go.undef] (k : Int) (by omega) (by omega) (x' := [u]) (seg := [u]) rfl ⟨rfl, rfl, fun q hq => by rw [List.mem_singleton.1 hq]; exact hu⟩
  refine ⟨?_, HB.setCell (Kd.R_base (h.own (i := 0) rfl) g rfl) _⟩
  have e1 : (hs.map fun u => [u]).set k [u] = (hs.set k u).map fun u => [u] := by rw [List.map_set]
  rw [Int.toNat_natCast, e1] at h2
  simpa [Kd.raw, World.setCells, heads] using h2
end
end Go.Proofs.YthpdemfehkoniaaW.AO
