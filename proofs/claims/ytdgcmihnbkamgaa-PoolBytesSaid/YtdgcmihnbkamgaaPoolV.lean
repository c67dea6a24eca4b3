/- PoolBytes: apart: what its loops keep. No condition. -/
import Derived.Test.YtdgcmihnbkamgaaPoolU
namespace Go.Proofs.Ytdgcmihnbkamgaa
open Go.RowKit
set_option linter.unusedVariables false
set_option linter.unusedSimpArgs false
theorem Fam.pull {w : World} {ex : Nat → Prop} {i : Item} (a b : List Item) (h : Fam w ex (a ++ i :: b)) : Fam w ex (i :: (a ++ b)) := h.perm List.perm_middle
theorem Fam.push {w : World} {ex : Nat → Prop} {i : Item} (a b : List Item) (h : Fam w ex (i :: (a ++ b))) : Fam w ex (a ++ i :: b) := h.perm List.perm_middle.symm
theorem Fam.rot {w : World} {ex : Nat → Prop} {i j k : Item} {l : List Item} (h : Fam w ex (i :: j :: k :: l)) : Fam w ex (k :: i :: j :: l) := (h.perm (.cons _ (.swap k j l))).swap
theorem Fam.drop {w : World} {ex : Nat → Prop} {l : List Item} (a : List Item) (h : Fam w ex (a ++ l)) : Fam w ex l := by
  induction a with
  | nil => exact h
  | cons i a ih => exact ih h.tail
theorem Fam.mem {w : World} {ex : Nat → Prop} {l : List Item} {i : Item} (h : Fam w ex l) (hi : i ∈ l) : ∃ ok, i.P w ok := by
  obtain ⟨a, b, rfl⟩ := List.append_of_mem hi
  obtain ⟨ok, h1, _⟩ := (h.drop a).head
  exact ⟨ok, h1⟩
theorem rowsB_append (D E : List (Value × List UInt8)) : rowsB (D ++ E) = rowsB D ++ rowsB E := by unfold rowsB; rw [List.map_append]
theorem rowsB_cons (r : Value × List UInt8) (E : List (Value × List UInt8)) : rowsB (r :: E) = rowItem 5 1 r.1 r.2.length (r.2.map U8) :: rowsB E := rfl
/-- A row of bytes may be read. -/
theorem RowO.bys {w : World} {ok : Nat → Prop} {v : Value} {n : Nat} {bs : List UInt8} (h : RowO w ok 5 1 v n (bs.map U8)) (hn : bs.length = n) : Bys w (fun b => 0 ≤ b ∧ b < w.heap.size) v bs := by
  subst hn
  exact RowB.bys h.1
theorem u8_wrap (n : Int) : ∃ x : UInt8, Value.int .u8 (IntKind.u8.wrap n) = U8 x := by
  have h : (0 : Int) ≤ IntKind.u8.wrap n ∧ IntKind.u8.wrap n < 256 := by
    have e : IntKind.u8.wrap n = n % 256 := by simp [IntKind.wrap, IntKind.signed, IntKind.bits]
    omega
  refine ⟨UInt8.ofNat (IntKind.u8.wrap n).toNat, ?_⟩
  unfold U8
  congr 1
  simp
  omega
theorem drop_at {α : Type} {L : List α} {i : Nat} (h : i < L.length) : ∃ r, L[i]? = some r ∧ L.drop i = r :: L.drop (i + 1) := ⟨L[i], List.getElem?_eq_getElem h, List.drop_eq_getElem_cons h⟩
/-- The first loop: D written over, L yet to come. -/
def Part (N : Nat) (vs : List Value) (B i : Nat) (D E : List (Value × List UInt8)) : Prop := D.length = i ∧ D.length + E.length = N ∧ (D ++ E).map (·.1) = vs ∧ ∀ r, r ∈ D ++ E → r.2.length ≤ B
theorem Part.split {N : Nat} {vs : List Value} {B i : Nat} {D E : List (Value × List UInt8)} (h : Part N vs B i D E) (hi : i < N) : ∃ r F, E = r :: F ∧ vs[i]? = some r.1 ∧ r.2.length ≤ B := by
  obtain ⟨h1, h2, h3, h4⟩ := h
  cases E with
  | nil => simp at h2; omega
  | cons r F =>
    refine ⟨r, F, rfl, ?_, h4 r (by simp)⟩
    rw [← h3, List.map_append, List.getElem?_append_right (by simp; omega)]
    simp [h1]
theorem Part.step {N : Nat} {vs : List Value} {B i : Nat} {D F : List (Value × List UInt8)} {r : Value × List UInt8} (h : Part N vs B i D (r :: F)) {cs : List UInt8} (hc : cs.length = r.2.length) : Part N vs B (i + 1) (D ++ [(r.1, cs)]) F := by
  obtain ⟨h1, h2, h3, h4⟩ := h
  refine ⟨by simp [h1], by simp at h2 ⊢; omega, ?_, fun s hs => ?_⟩
  · rw [← h3]; simp
  · rw [List.append_assoc] at hs
    rcases List.mem_append.1 hs with hs | hs
    · exact h4 s (by simp [hs])
    · rcases List.mem_cons.1 hs with rfl | hs
      · have := h4 r (by simp)
        simp only [hc]
        exact this
      · have hs' : s ∈ F := hs
        exact h4 s (by simp [hs'])
theorem Part.done {N : Nat} {vs : List Value} {B : Nat} {D E : List (Value × List UInt8)} (h : Part N vs B N D E) : E = [] ∧ D.length = N ∧ D.map (·.1) = vs := by
  obtain ⟨h1, h2, h3, h4⟩ := h
  have e : E = [] := List.eq_nil_of_length_eq_zero (by omega)
  subst e
  exact ⟨rfl, h1, by simpa using h3⟩
theorem info26 : (Try.prog.info? 26).map (fun i => (i.zero, i.size, i.bytes)) = some (some (.slice none 0 0), 1, 24) := by kernel_rfl
/-- A row, what it reads, what grew out of it, what that reads. -/
structure Gr where
  v : Value
  X : List UInt8
  v2 : Value
  Y : List UInt8
def rowsG (G : List Gr) : List Item := G.map fun g => grownItem g.v g.X g.v2 g.Y
theorem rowsG_append (D E : List Gr) : rowsG (D ++ E) = rowsG D ++ rowsG E := by unfold rowsG; rw [List.map_append]
/-- The second loop: G grown, E yet to come. -/
def Grew (N : Nat) (vs : List Value) (xs : List (List UInt8)) (B i : Nat) (G : List Gr) (E : List (Value × List UInt8)) : Prop := G.length = i ∧ G.length + E.length = N ∧ G.map (·.v) ++ E.map (·.1) = vs ∧ G.map (·.X) ++ E.map (·.2) = xs ∧ ∀ r, r ∈ E → r.2.length ≤ B
theorem Grew.start {N : Nat} {vs : List Value} {B : Nat} {D : List (Value × List UInt8)} (h : Part N vs B N D []) : Grew N vs (D.map (·.2)) B 0 [] D := by
  obtain ⟨h1, h2, h3, h4⟩ := h
  exact ⟨rfl, by simpa using h1, by simpa using h3, rfl, by simpa using h4⟩
theorem Grew.split {N : Nat} {vs : List Value} {xs : List (List UInt8)} {B i : Nat} {G : List Gr} {E : List (Value × List UInt8)} (h : Grew N vs xs B i G E) (hi : i < N) : ∃ r F, E = r :: F ∧ vs[i]? = some r.1 ∧ r.2.length ≤ B := by
  obtain ⟨h1, h2, h3, _, h4⟩ := h
  cases E with
  | nil => simp at h2; omega
  | cons r F =>
    refine ⟨r, F, rfl, ?_, h4 r (by simp)⟩
    rw [← h3, List.getElem?_append_right (by simp; omega)]
    simp [h1]
theorem Grew.step {N : Nat} {vs : List Value} {xs : List (List UInt8)} {B i : Nat} {G : List Gr} {F : List (Value × List UInt8)} {r : Value × List UInt8} (h : Grew N vs xs B i G (r :: F)) (v2 : Value) (Y : List UInt8) : Grew N vs xs B (i + 1) (G ++ [⟨r.1, r.2, v2, Y⟩]) F := by
  obtain ⟨h1, h2, h3, h5, h4⟩ := h
  refine ⟨by simp [h1], by simp at h2 ⊢; omega, by rw [← h3]; simp, by rw [← h5]; simp, fun s hs => h4 s (by simp [hs])⟩
theorem Grew.done {N : Nat} {vs : List Value} {xs : List (List UInt8)} {B : Nat} {G : List Gr} {E : List (Value × List UInt8)} (h : Grew N vs xs B N G E) : E = [] ∧ G.length = N ∧ G.map (·.v) = vs ∧ G.map (·.X) = xs := by
  obtain ⟨h1, h2, h3, h5, h4⟩ := h
  have e : E = [] := List.eq_nil_of_length_eq_zero (by omega)
  subst e
  exact ⟨rfl, h1, by simpa using h3, by simpa using h5⟩
theorem RowO.room {w : World} {ok : Nat → Prop} {e : TypeId} {sz g n c : Nat} {cs : List Value} (h : RowO w ok e sz (.slice (some ⟨g, 0, none⟩) n c) n cs) : n ≤ c := by
  rcases h.1.2 with ⟨e, _⟩ | ⟨g', c', cur, e, _, _, h4, _⟩
  · cases e
  · injection e with e1 e2 e3
    omega
/-- The end of a row of bytes reads as bytes. -/
theorem RowO.tailBys {w : World} {ok : Nat → Prop} {g n c : Nat} {bs : List UInt8} (h : RowO w ok 5 1 (.slice (some ⟨g, 0, none⟩) n c) n (bs.map U8)) (hn : bs.length = n) {d : Nat} (hd : d ≤ n) : Bys w (fun b => 0 ≤ b ∧ b < w.heap.size) (.slice (some ⟨g, d, none⟩) (n - d) (c - d)) (bs.drop d) := by
  subst hn
  rcases RowO.bys h rfl with ⟨e, _⟩ | ⟨a, c', e, h2, h3, h4, h5⟩
  · cases e
  · injection e with e1 e2 e3
    injection e1 with e1
    subst e1 e3
    refine .inr ⟨⟨g, d, none⟩, c - d, by rw [List.length_drop], by rw [List.length_drop]; omega, by omega, fun hne => h4 (fun e => hne (by rw [e]; simp)), fun j u hj => ?_⟩
    have h6 := h5 (d + j) u (by rw [List.map_drop, List.getElem?_drop] at hj; exact hj)
    rw [add_zero_off] at h6
    have e2 : (⟨g, d, none⟩ : Addr).add j = ⟨g, d + j, none⟩ := by unfold Addr.add; split <;> simp_all
    rw [e2]
    exact h6
theorem RowO.short {w : World} {ok : Nat → Prop} {e : TypeId} {sz n : Nat} {v : Value} {cs : List Value} (h : RowO w ok e sz v n cs) : n ≤ 9223372036854775807 := by
  rcases h.1.2 with ⟨_, e⟩ | ⟨g', c', cur, _, _, _, h4, h5, _⟩
  · omega
  · unfold maxLen at h5
    omega
theorem cat_fits {X Y : List UInt8} (h : X <+: Y) (hl : Y.length ≤ 9223372036854775807) : ¬ 9223372036854775807 < X.length + (Y.length - X.length) := by
  have h3 := h.length_le
  omega
theorem cat_drop {X Y : List UInt8} (h : X <+: Y) : (⟨X.toArray⟩ : ByteArray) ++ ⟨(Y.drop X.length).toArray⟩ = ⟨Y.toArray⟩ := by
  obtain ⟨t, rfl⟩ := h
  rw [List.drop_left]
  apply ByteArray.ext
  rw [ByteArray.data_append]
  simp
end Go.Proofs.Ytdgcmihnbkamgaa
