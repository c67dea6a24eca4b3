/- PoolBytes: apartInts: what its loops keep; sameInts over rows that are read alone. Condition of the last: fewer than 2^44 numbers. -/
import Derived.Test.YtdgcmihnbkamgaaPoolW
namespace Go.Proofs.Ytdgcmihnbkamgaa
open Go.RowKit
set_option linter.unusedVariables false
set_option linter.unusedSimpArgs false
/-- Cells that read the numbers X, from a block's beginning on. -/
def RowI (w : World) (ok : Nat → Prop) (v : Value) (X : List Int) : Prop := (∃ A c, v = .slice A X.length c ∧ X.length ≤ c) ∧ ∀ (j : Nat) x, X[j]? = some x → ∃ g c, v = .slice (some ⟨g, 0, none⟩) X.length c ∧ ok g ∧ w.cell? ⟨g, j, none⟩ = some (.int .i64 x)
theorem RowO.cap {w : World} {ok : Nat → Prop} {e : TypeId} {sz n m c : Nat} {A : Option Addr} {cs : List Value} (h : RowO w ok e sz (.slice A m c) n cs) : n ≤ c := by
  rcases h.1.2 with ⟨e, h0⟩ | ⟨g', c', cur, e, _, _, h4, _⟩
  · omega
  · injection e with e1 e2 e3
    omega
theorem RowO.rowI {w : World} {ok : Nat → Prop} {v : Value} {n : Nat} {X : List Int} (h : RowO w ok 3 1 v n (X.map (Value.int .i64))) (hn : X.length = n) : RowI w ok v X := by
  subst hn
  refine ⟨?_, fun j x hj => ?_⟩
  · obtain ⟨A, c, e, _⟩ := RowO.shape h
    subst e
    exact ⟨A, c, rfl, RowO.cap h⟩
  · obtain ⟨g, c, h1, h2, _, h3⟩ := RowO.cell h (j := j) (u := .int .i64 x) (by rw [List.getElem?_map, hj]; rfl)
    exact ⟨g, c, h1, h3, h2⟩
theorem RowI.loc {w w' : World} {ok : Nat → Prop} {v : Value} {X : List Int} (h : RowI w ok v X) (hk : ∀ b, ok b → b < w.heap.size → w'.heap[b]? = w.heap[b]?) : RowI w' ok v X := by
  refine ⟨h.1, fun j u hj => ?_⟩
  obtain ⟨g, c, h1, h2, h3⟩ := h.2 j u hj
  exact ⟨g, c, h1, h2, by rw [World.cell?_of_block (w := w) (hk g h2 (World.block_lt_of_cell? w _ h3))]; exact h3⟩
theorem RowI.below {w w' : World} {ok : Nat → Prop} {v : Value} {X : List Int} (h : RowI w ok v X) (hb : Below w.heap.size w w') : RowI w' ok v X := h.loc fun b _ hlt => hb.block b hlt
theorem RowI.bd {w : World} {ok : Nat → Prop} {v : Value} {X : List Int} (h : RowI w ok v X) : RowI w (fun b => ok b ∧ b < w.heap.size) v X := by
  refine ⟨h.1, fun j u hj => ?_⟩
  obtain ⟨g, c, h1, h2, h3⟩ := h.2 j u hj
  exact ⟨g, c, h1, ⟨h2, World.block_lt_of_cell? w _ h3⟩, h3⟩
/-- The beginning of a row of numbers. -/
theorem RowI.take {w : World} {ok : Nat → Prop} {A : Option Addr} {c : Nat} {n : Nat} {X Y : List Int} (h : RowI w ok (.slice A n c) Y) (hp : X <+: Y) : RowI w ok (.slice A X.length c) X := by
  refine ⟨⟨A, c, rfl, ?_⟩, fun j x hj => ?_⟩
  · obtain ⟨A', c', e, hc⟩ := h.1
    injection e with e1 e2 e3
    have := hp.length_le
    omega
  · obtain ⟨t, rfl⟩ := hp
    obtain ⟨g, c', h1, h2, h3⟩ := h.2 j x (by rw [List.getElem?_append_left (List.getElem?_eq_some_iff.1 hj).1]; exact hj)
    injection h1 with e1 e2 e3
    subst e1 e3
    exact ⟨g, c, rfl, h2, h3⟩
/-- A row that is read, and the row that grew out of it. -/
def grownItemI (v : Value) (X : List Int) (v2 : Value) (Y : List Int) : Item :=
  ⟨fun w ok => X <+: Y ∧ RowI w ok v X ∧ RowO w ok 3 1 v2 Y.length (Y.map (Value.int .i64)), fun h hk => ⟨h.1, h.2.1.loc hk, h.2.2.loc hk⟩, fun h => ⟨h.1, h.2.1.bd, h.2.2.bd⟩⟩
theorem grownItemI.start {w : World} {ok : Nat → Prop} {v : Value} {X : List Int} (h : (rowItem 3 1 v X.length (X.map (Value.int .i64))).P w ok) : (grownItemI v X v X).P w ok := ⟨List.prefix_rfl, RowO.rowI h rfl, h⟩
theorem grownI_more (w : World) (ty : TypeId) {ok : Nat → Prop} {v v2 : Value} {X Y : List Int} (h : (grownItemI v X v2 Y).P w ok) (x : Int) (hl : Y.length < 17592186044415) :
    ∃ v' w', (Builtin.append_ #[49, 49] ty #[v2, .slice (some ⟨w.heap.size, 0, none⟩) 1 1]).run Try.prog (w.alloc (.cells #[.int .i64 x] 3)) = .ok v' w' ∧ (grownItemI v X v' (Y ++ [x])).P w' (grow ok w) ∧ Turn ok w w' := by
  obtain ⟨hp, hX, hY⟩ := h
  have hY1 : RowO w (fun b => v2.ownBlock = some b) 3 1 v2 Y.length (Y.map (Value.int .i64)) := ⟨hY.1, fun k hk => hk⟩
  obtain ⟨v', w', hr, ho, ht, hk⟩ := row_more w 49 ty 3 hY1 (.int .i64 x) Try.underlying49 info3 (by rfl) (by rfl) (.inl (by omega)) (by omega)
  refine ⟨v', w', hr, ⟨hp.trans (List.prefix_append _ _), ⟨hX.1, fun j u hj => ?_⟩, ?_⟩, ht.mono fun b hb => hY.2 b hb⟩
  · obtain ⟨g, c, h1, h2, h3⟩ := hX.2 j u hj
    refine ⟨g, c, h1, .inl h2, ?_⟩
    by_cases he : v2.ownBlock = some g
    · have hj2 : (Y.map (Value.int .i64))[j]? = some (.int .i64 u) := by
        obtain ⟨t, rfl⟩ := hp
        rw [List.map_append, List.getElem?_append_left (by rw [List.length_map]; exact (List.getElem?_eq_some_iff.1 hj).1), List.getElem?_map, hj]
        rfl
      obtain ⟨g', c', e1, e2⟩ := hk j _ hj2
      rw [e1] at he
      obtain rfl := Option.some.inj he
      exact e2
    · rw [World.cell?_of_block (w := w) (ht.block _ (World.block_lt_of_cell? w _ h3) he)]
      exact h3
  · have e : (Y ++ [x]).map (Value.int .i64) = Y.map (Value.int .i64) ++ [.int .i64 x] := by simp
    rw [e, List.length_append]
    exact ho.mono fun b hb => hb.imp (fun h => hY.2 b h) id
set_option maxRecDepth 100000 in
/-- 'sameInts(a, b)', of the same numbers. -/
theorem sameInts_reads (w : World) {ok1 ok2 : Nat → Prop} {v1 v2 : Value} (xs : List Int) (h1 : RowI w ok1 v1 xs) (h2 : RowI w ok2 v2 xs) (hn : xs.length < 17592186044416) :
    Calls Try.prog 29 #[v1, v2] w fun e w' => e = .returned (.bool true) ∧ Below w.heap.size w w' := by
  obtain ⟨A1, c1, rfl, hc1⟩ := h1.1
  obtain ⟨A2, c2, rfl, hc2⟩ := h2.1
  have H1 := Lib.hid h1
  have H2 := Lib.hid h2
  clear h1 h2
  go_enter Try.func29, Try.ntmps29
  go_wp2
  go_loopg [5] xs.length (fun k v5 wr => ∃ i : Nat, i ≤ xs.length ∧ v5 = .int .i64 i ∧ k = xs.length - i ∧ Hid (Below w.heap.size w wr))
  case atStart => exact ⟨0, Nat.zero_le _, rfl, rfl, Lib.hid (Below.refl _ _)⟩
  case round =>
    obtain ⟨i, hi, rfl, hq, HB⟩ := hrel
    have HQ := Lib.hid hq
    clear hq
    by_cases hil : i < xs.length
    · obtain ⟨x, hx⟩ : ∃ x, xs[i]? = some x := ⟨_, List.getElem?_eq_getElem hil⟩
      obtain ⟨g1, _, e1, _, a1⟩ := (H1.out.below HB.out).2 i x hx
      obtain ⟨g2, _, e2, _, a2⟩ := (H2.out.below HB.out).2 i x hx
      cases e1
      cases e2
      clear hx
      have hlt : (i : Int) < (xs.length : Int) := by omega
      have hdec : decide ((i : Int) < (xs.length : Int)) = true := decide_eq_true hlt
      go_wp2
      go_region_held3 (fun w' => w'.cell? ⟨g1, i, none⟩ = some (.int .i64 x) ∧ w'.cell? ⟨g2, i, none⟩ = some (.int .i64 x)) (exact ⟨a1, a2⟩) (fail)
      go_wp2
      go_roundg (xs.length - (i + 1))
      case measure => have := HQ.out; omega
      case rel => exact ⟨i + 1, by omega, by go_num, rfl, Lib.hid (HB.out.drew)⟩
    · have hdec : decide ((i : Int) < (xs.length : Int)) = false := decide_eq_false (by omega)
      go_wp2
      go_ret
      exact ⟨rfl, HB.out⟩
/-- Two things go back among the others. -/
theorem fam_in {w : World} {ex : Nat → Prop} {i j : Item} (a b : List Item) (h : Fam w ex (i :: j :: (a ++ b))) : Fam w ex (a ++ i :: j :: b) := Fam.push a (j :: b) (Fam.push (i :: a) b h.swap)
theorem fam_out {w : World} {ex : Nat → Prop} {i j : Item} (a b : List Item) (h : Fam w ex (a ++ i :: j :: b)) : Fam w ex (i :: j :: (a ++ b)) := (Fam.pull (i :: a) b (Fam.pull a (j :: b) h)).swap
def rowI (v : Value) (X : List Int) : Item := rowItem 3 1 v X.length (X.map (Value.int .i64))
def rowsI (E : List (Value × List Int)) : List Item := E.map fun r => rowI r.1 r.2
/-- A row, what it reads, the row that says what it should read. -/
structure Ti where
  v : Value
  X : List Int
  wv : Value
def rowsT (D : List Ti) : List Item := D.flatMap fun d => [rowI d.v d.X, rowI d.wv d.X]
theorem rowsT_append (D E : List Ti) : rowsT (D ++ E) = rowsT D ++ rowsT E := by unfold rowsT; rw [List.flatMap_append]
/-- The same, grown. -/
structure Gi where
  v : Value
  X : List Int
  wv : Value
  v2 : Value
  Y : List Int
def rowsGi (G : List Gi) : List Item := G.flatMap fun g => [grownItemI g.v g.X g.v2 g.Y, rowI g.wv g.Y]
theorem rowsGi_append (D E : List Gi) : rowsGi (D ++ E) = rowsGi D ++ rowsGi E := by unfold rowsGi; rw [List.flatMap_append]
def PartI (N : Nat) (vs : List Value) (B i : Nat) (D : List Ti) (E : List (Value × List Int)) : Prop := D.length = i ∧ D.length + E.length = N ∧ D.map (·.v) ++ E.map (·.1) = vs ∧ (∀ r, r ∈ D → r.X.length ≤ B) ∧ ∀ r, r ∈ E → r.2.length ≤ B
theorem PartI.split {N : Nat} {vs : List Value} {B i : Nat} {D : List Ti} {E : List (Value × List Int)} (h : PartI N vs B i D E) (hi : i < N) : ∃ r F, E = r :: F ∧ vs[i]? = some r.1 ∧ r.2.length ≤ B := by
  obtain ⟨h1, h2, h3, _, h4⟩ := h
  cases E with
  | nil => simp at h2; omega
  | cons r F =>
    refine ⟨r, F, rfl, ?_, h4 r (by simp)⟩
    rw [← h3, List.getElem?_append_right (by simp; omega)]
    simp [h1]
theorem PartI.step {N : Nat} {vs : List Value} {B i : Nat} {D : List Ti} {F : List (Value × List Int)} {r : Value × List Int} (h : PartI N vs B i D (r :: F)) {cs : List Int} (hc : cs.length = r.2.length) (wv : Value) : PartI N vs B (i + 1) (D ++ [⟨r.1, cs, wv⟩]) F := by
  obtain ⟨h1, h2, h3, h5, h4⟩ := h
  refine ⟨by simp [h1], by simp at h2 ⊢; omega, by rw [← h3]; simp, fun s hs => ?_, fun s hs => h4 s (by simp [hs])⟩
  rcases List.mem_append.1 hs with hs | hs
  · exact h5 s hs
  · obtain rfl := List.mem_singleton.1 hs
    have := h4 r (by simp)
    simp only [hc]
    exact this
theorem PartI.done {N : Nat} {vs : List Value} {B : Nat} {D : List Ti} {E : List (Value × List Int)} (h : PartI N vs B N D E) : E = [] ∧ D.length = N ∧ D.map (·.v) = vs ∧ ∀ r, r ∈ D → r.X.length ≤ B := by
  obtain ⟨h1, h2, h3, h5, h4⟩ := h
  have e : E = [] := List.eq_nil_of_length_eq_zero (by omega)
  subst e
  exact ⟨rfl, h1, by simpa using h3, h5⟩
def GrewI (N : Nat) (vs : List Value) (B i : Nat) (G : List Gi) (E : List Ti) : Prop := G.length = i ∧ G.length + E.length = N ∧ G.map (·.v) ++ E.map (·.v) = vs ∧ (∀ g, g ∈ G → g.X.length ≤ B ∧ g.Y.length = g.X.length + 16) ∧ ∀ r, r ∈ E → r.X.length ≤ B
theorem GrewI.split {N : Nat} {vs : List Value} {B i : Nat} {G : List Gi} {E : List Ti} (h : GrewI N vs B i G E) (hi : i < N) : ∃ r F, E = r :: F ∧ vs[i]? = some r.v ∧ r.X.length ≤ B := by
  obtain ⟨h1, h2, h3, _, h4⟩ := h
  cases E with
  | nil => simp at h2; omega
  | cons r F =>
    refine ⟨r, F, rfl, ?_, h4 r (by simp)⟩
    rw [← h3, List.getElem?_append_right (by simp; omega)]
    simp [h1]
theorem GrewI.step {N : Nat} {vs : List Value} {B i : Nat} {G : List Gi} {F : List Ti} {r : Ti} (h : GrewI N vs B i G (r :: F)) (wv v2 : Value) {Y : List Int} (hy : Y.length = r.X.length + 16) : GrewI N vs B (i + 1) (G ++ [⟨r.v, r.X, wv, v2, Y⟩]) F := by
  obtain ⟨h1, h2, h3, h5, h4⟩ := h
  refine ⟨by simp [h1], by simp at h2 ⊢; omega, by rw [← h3]; simp, fun s hs => ?_, fun s hs => h4 s (by simp [hs])⟩
  rcases List.mem_append.1 hs with hs | hs
  · exact h5 s hs
  · obtain rfl := List.mem_singleton.1 hs
    exact ⟨h4 r (by simp), hy⟩
theorem GrewI.done {N : Nat} {vs : List Value} {B : Nat} {G : List Gi} {E : List Ti} (h : GrewI N vs B N G E) : E = [] ∧ G.length = N ∧ G.map (·.v) = vs ∧ ∀ g, g ∈ G → g.X.length ≤ B ∧ g.Y.length = g.X.length + 16 := by
  obtain ⟨h1, h2, h3, h5, h4⟩ := h
  have e : E = [] := List.eq_nil_of_length_eq_zero (by omega)
  subst e
  exact ⟨rfl, h1, by simpa using h3, h5⟩
theorem info49 : (Try.prog.info? 49).map (fun i => (i.zero, i.size, i.bytes)) = some (some (.slice none 0 0), 1, 24) := by kernel_rfl
end Go.Proofs.Ytdgcmihnbkamgaa
