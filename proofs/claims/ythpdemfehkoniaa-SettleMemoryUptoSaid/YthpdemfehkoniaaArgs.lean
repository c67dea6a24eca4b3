/- How a slice of structs of two whole numbers that came in is read: as a list of pairs; its length by the row's weights and by the second form's bound. For any place. -/
import Derived.Test.YthpdemfehkoniaaRows
import Derived.Test.YthpdemfehkoniaaAO
import Derived.Deep.SlicePairs
import Derived.ProofKit
import Derived.SizedLaws
namespace Go.Proofs.Ythpdemfehkoniaa.Args
open Go.RowKit Go.Deep Go.ChangeShapes Go.Proofs.YthpdemfehkoniaaW.PrintWords
set_option linter.unusedVariables false

def numOf : Value → Int
  | .int _ n => n
  | _ => 0
theorem pairs_read {H : Type} {enc : TypeId × Value → H} {P : Program} {W : World} {base : Nat} {spare : Nat → Bool} {held : Bool} {t e : TypeId} {f0 f1 : Field} {a : Option Addr} {len cap : Nat} {d : DataW H} {ps : List MemPlace}
    (ht : P.underlying t = some (.slice e)) (he : P.underlying e = some (.struct #[f0, f1])) (ce : P.cellsOf e = 2) (o0 : f0.offset = 0) (o1 : f1.offset = 1) (c0 : P.cellsOf f0.type = 1) (c1 : P.cellsOf f1.type = 1)
    (i0 : P.underlying f0.type = some (.int .i64)) (i1 : P.underlying f1.type = some (.int .i64)) (h : DataW.Trod enc P W base spare held t (.slice a len cap) d ps) :
    ∃ l : List (Int × Int), l.length = len ∧ len ≤ cap ∧ Kd.C (Kd.pair (Kd.int .i64) (Kd.int .i64)) W a l.length l ∧ ((d = .nil ∧ len = 0) ∨ ∃ es sp, d = .slice es sp ∧ es.length = len) := by
  obtain ⟨fuel, hf⟩ := h
  rcases open_slice_pairs ht he ce o0 o1 c0 c1 hf with ⟨hcs, hx⟩ | ⟨x, l, c, m, n, V0, V1, D0, D1, P0, P1, hcs, _, hl, hm, hmm, hx, hcell⟩
  · simp [Value.cells] at hcs
    obtain ⟨rfl, rfl, rfl⟩ := hcs
    exact ⟨[], rfl, Nat.le_refl _, ⟨rfl, by simp, fun h => absurd h (Nat.lt_irrefl _)⟩, .inl ⟨(Prod.mk.inj hx).1, rfl⟩⟩
  · simp [Value.cells] at hcs
    obtain ⟨rfl, rfl, rfl⟩ := hcs
    have hlm : len ≤ m := by rw [hmm]; split <;> omega
    refine ⟨(List.range len).map fun i => (numOf (V0 i), numOf (V1 i)), by simp, hl, ⟨by simp, by have := hm; simp [maxLen] at this; simp; omega, fun _ => ⟨x, rfl, fun j p hj => ?_⟩⟩, .inr ⟨_, _, (Prod.mk.inj hx).1, by simp⟩⟩
    obtain ⟨hjl, hp⟩ := List.getElem?_eq_some_iff.1 hj
    have hjl' : j < len := by simpa using hjl
    obtain ⟨h0, h1, t0, t1⟩ := hcell j (by omega)
    obtain ⟨n0, e0, _, _⟩ := DataW.trod_int i0 t0
    obtain ⟨n1, e1, _, _⟩ := DataW.trod_int i1 t1
    have e0' : V0 j = .int .i64 n0 := by simpa using e0
    have e1' : V1 j = .int .i64 n1 := by simpa using e1
    have hp' : p = (n0, n1) := by rw [← hp]; simp [e0', e1', numOf]
    subst hp'
    refine ⟨[.int .i64 n0, .int .i64 n1], rfl, ⟨[.int .i64 n0], [.int .i64 n1], rfl, rfl, rfl⟩, fun i u hu => ?_⟩
    match i, hu with
    | 0, hu => rw [← (by simpa using hu : Value.int .i64 n0 = u), ← e0']; exact h0
    | 1, hu => rw [← (by simpa using hu : Value.int .i64 n1 = u), ← e1']; exact h1
    | i + 2, hu => simp at hu
theorem ints_read {H : Type} {enc : TypeId × Value → H} {P : Program} {W : World} {base : Nat} {spare : Nat → Bool} {held : Bool} {t e : TypeId} {k : IntKind} {a : Option Addr} {len cap : Nat} {d : DataW H} {ps : List MemPlace}
    (ht : P.underlying t = some (.slice e)) (he : P.underlying e = some (.int k)) (ce : P.cellsOf e = 1) (h : DataW.Trod enc P W base spare held t (.slice a len cap) d ps) :
    ∃ l : List Int, l.length = len ∧ len ≤ cap ∧ Kd.C (Kd.int k) W a l.length l ∧ ((d = .nil ∧ len = 0) ∨ ∃ es sp, d = .slice es sp ∧ es.length = len) := by
  obtain ⟨fuel, hf⟩ := h
  rcases open_ints ht he ce hf with ⟨hcs, hx⟩ | ⟨x, l, c, zs, hcs, _, hl, hm, hz, hx, hcell, _⟩
  · simp [Value.cells] at hcs
    obtain ⟨rfl, rfl, rfl⟩ := hcs
    exact ⟨[], rfl, Nat.le_refl _, ⟨rfl, by simp, fun h => absurd h (Nat.lt_irrefl _)⟩, .inl ⟨(Prod.mk.inj hx).1, rfl⟩⟩
  · simp [Value.cells] at hcs
    obtain ⟨rfl, rfl, rfl⟩ := hcs
    have hl2 : len ≤ zs.length := by
      rw [hz]
      split
      · exact hl
      · exact Nat.le_refl _
    refine ⟨zs.take len, by rw [List.length_take]; omega, hl, ⟨by simp, by have := hm; simp [maxLen] at this; rw [List.length_take]; omega, fun _ => ⟨x, rfl, fun j p hj => ?_⟩⟩, .inr ⟨_, _, (Prod.mk.inj hx).1, by simp [lits]; omega⟩⟩
    obtain ⟨hjl, hp⟩ := List.getElem?_eq_some_iff.1 hj
    have hjl' : j < len := by rw [List.length_take] at hjl; omega
    have h0 := hcell j (by omega)
    have hp' : zs.getD j 0 = p := by rw [← hp, List.getElem_take]; simp [List.getD_eq_getElem?_getD, List.getElem?_eq_getElem (show j < zs.length by omega)]
    rw [hp'] at h0
    refine ⟨[.int k p], rfl, rfl, fun i u hu => ?_⟩
    match i, hu with
    | 0, hu => rw [← (by simpa using hu : Value.int k p = u)]; simpa [Kd.int, Kd.scalar] using h0
    | i + 1, hu => simp at hu
theorem C_iso {α β : Type} {k : Kd α} {f : β → α} {g : α → β} (hfg : ∀ x, f (g x) = x) {W : World} {a : Option Addr} {l : List α} (h : k.C W a l.length l) : (Kd.iso k f).C W a (l.map g).length (l.map g) := by
  obtain ⟨_, h1, h2⟩ := h
  refine ⟨rfl, by simpa using h1, fun hn => ?_⟩
  obtain ⟨ad, e, hc⟩ := h2 (by simpa using hn)
  refine ⟨ad, e, fun j p hj => ?_⟩
  rw [List.getElem?_map] at hj
  obtain ⟨q, hq, rfl⟩ := Option.map_eq_some_iff.1 hj
  obtain ⟨c, hs, hk, hcc⟩ := hc j q hq
  exact ⟨c, hs, by show k.K W (f (g q)) c; rw [hfg]; exact hk, hcc⟩
/-- By the row's weights: so many elements fit. -/
theorem sized_pairs {H : Type} {P : Program} {t e : TypeId} {d : DataW H} {ts : List TypeId} {ds : List (DataW H)} {j len : Nat}
    (hsz : (DataW.weightsEach P ts ds).all (· ≤ reachBytes) = true) (ht : ts[j]? = some t) (hd : ds[j]? = some d) (hu : P.underlying t = some (.slice e)) {B : Nat} (hB : P.bytesOf e = B)
    (h : (d = .nil ∧ len = 0) ∨ ∃ es sp, d = .slice es sp ∧ es.length = len) : len * B ≤ 140737488351232 := by
  rcases h with ⟨_, rfl⟩ | ⟨es, sp, rfl, rfl⟩
  · simp
  · have z := sized_slice hsz ht hd hu
    rw [hB] at z
    exact Nat.le_trans (Nat.mul_le_mul_right _ (Nat.le_add_right _ _)) z
/-- By the second form's bound. -/
theorem one_le {H : Type} (d : DataW H) : 1 ≤ Rows.uptoBulk d := by
  cases d with
  | lit l => cases l <;> simp [Rows.uptoBulk]
  | _ => simp [Rows.uptoBulk]
theorem length_le {H : Type} (l : List (DataW H)) : l.length ≤ Rows.uptoBulkAll l := by
  induction l with
  | nil => simp [Rows.uptoBulkAll]
  | cons x r ih => have := one_le x; simp only [Rows.uptoBulkAll, List.length_cons]; omega
theorem small_pairs {H : Type} {d : DataW H} {ds : List (DataW H)} {len : Nat} (hk : Rows.uptoSmall H ds = true) (hd : d ∈ ds) (h : (d = .nil ∧ len = 0) ∨ ∃ es sp, d = .slice es sp ∧ es.length = len) : len ≤ 1048576 := by
  have hall : Rows.uptoBulkAll ds ≤ 1048576 := of_decide_eq_true hk
  have hpart : ∀ l : List (DataW H), d ∈ l → Rows.uptoBulk d ≤ Rows.uptoBulkAll l := by
    intro l hl
    induction l with
    | nil => cases hl
    | cons x r ih =>
      simp only [Rows.uptoBulkAll]
      cases List.mem_cons.1 hl with
      | inl e => subst e; omega
      | inr e => have := ih e; omega
  have hp := hpart ds hd
  rcases h with ⟨_, rfl⟩ | ⟨es, sp, rfl, rfl⟩
  · omega
  · have := length_le es
    simp only [Rows.uptoBulk] at hp
    omega
end Go.Proofs.Ythpdemfehkoniaa.Args
