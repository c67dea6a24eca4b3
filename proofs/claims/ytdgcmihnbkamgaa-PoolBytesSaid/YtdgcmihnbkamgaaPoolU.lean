/- PoolBytes: a row of bytes beside what was appended to it: they may share a block. No condition. -/
import Derived.Test.YtdgcmihnbkamgaaPoolT
namespace Go.Proofs.Ytdgcmihnbkamgaa
open Go.RowKit
set_option linter.unusedVariables false
set_option linter.unusedSimpArgs false
/-- Cells that read X, from a block's beginning on. -/
def RowC (w : World) (ok : Nat → Prop) (v : Value) (X : List UInt8) : Prop := (∃ A c, v = .slice A X.length c) ∧ ∀ (j : Nat) u, (X.map U8)[j]? = some u → ∃ g c, v = .slice (some ⟨g, 0, none⟩) X.length c ∧ ok g ∧ w.cell? ⟨g, j, none⟩ = some u
theorem RowO.rowC {w : World} {ok : Nat → Prop} {v : Value} {X : List UInt8} (h : RowO w ok 5 1 v X.length (X.map U8)) : RowC w ok v X := by
  refine ⟨?_, fun j u hj => ?_⟩
  · obtain ⟨A, c, e, _⟩ := RowO.shape h
    exact ⟨A, c, e⟩
  · obtain ⟨g, c, h1, h2, _, h3⟩ := RowO.cell h hj
    exact ⟨g, c, h1, h3, h2⟩
theorem RowC.loc {w w' : World} {ok : Nat → Prop} {v : Value} {X : List UInt8} (h : RowC w ok v X) (hk : ∀ b, ok b → b < w.heap.size → w'.heap[b]? = w.heap[b]?) : RowC w' ok v X := by
  refine ⟨h.1, fun j u hj => ?_⟩
  obtain ⟨g, c, h1, h2, h3⟩ := h.2 j u hj
  exact ⟨g, c, h1, h2, by rw [World.cell?_of_block (w := w) (hk g h2 (World.block_lt_of_cell? w _ h3))]; exact h3⟩
theorem RowC.bd {w : World} {ok : Nat → Prop} {v : Value} {X : List UInt8} (h : RowC w ok v X) : RowC w (fun b => ok b ∧ b < w.heap.size) v X := by
  refine ⟨h.1, fun j u hj => ?_⟩
  obtain ⟨g, c, h1, h2, h3⟩ := h.2 j u hj
  exact ⟨g, c, h1, ⟨h2, World.block_lt_of_cell? w _ h3⟩, h3⟩
theorem RowC.str {w : World} {ok : Nat → Prop} {v : Value} {X : List UInt8} (h : RowC w ok v X) : (convert 26 9 v).run Try.prog w = .ok (.string ⟨X.toArray⟩) w := by
  obtain ⟨⟨A, c, rfl⟩, h⟩ := h
  cases A with
  | none =>
    cases X with
    | nil => exact run_convert_bytes_nil w 26 5 Try.underlying26 Try.underlying5 0 c 9 Try.underlying9
    | cons x X => obtain ⟨g, c', e, _⟩ := h 0 (U8 x) rfl; cases e
  | some a =>
    have hc : ∀ (j : Nat) u, (X.map U8)[j]? = some u → w.cell? (a.add j) = some u := by
      intro j u hj
      obtain ⟨g, c', e, _, h2⟩ := h j u hj
      injection e with e1
      injection e1 with e1
      subst e1
      rw [add_zero_off]
      exact h2
    have hl : (loadCells a X.length).run Try.prog w = .ok ((X.map fun x => (x.toNat : Int)).map (Value.int .u8)).toArray w := by
      have := run_loadCells_list (P := Try.prog) w a (X.map U8) hc
      rw [List.length_map] at this
      rw [List.map_map]
      exact this
    rw [run_convert_bytes_string w 26 9 5 _ _ c Try.underlying26 Try.underlying5 Try.underlying9, run_bytesToString w _ X.length c _ hl, foldl_push_bytes]
    congr 2
    rw [List.map_map]
    have e : (X.map ((fun n : Int => UInt8.ofNat n.toNat) ∘ fun x : UInt8 => (x.toNat : Int))) = X := by
      rw [show ((fun n : Int => UInt8.ofNat n.toNat) ∘ fun x : UInt8 => (x.toNat : Int)) = id by funext x; simp]
      simp
    rw [e]
    simp [ByteArray.empty, ByteArray.emptyWithCapacity]
    rfl
/-- A row that is read, and the row that grew out of it. -/
def grownItem (v : Value) (X : List UInt8) (v2 : Value) (Y : List UInt8) : Item :=
  ⟨fun w ok => X <+: Y ∧ RowC w ok v X ∧ RowO w ok 5 1 v2 Y.length (Y.map U8), fun h hk => ⟨h.1, h.2.1.loc hk, h.2.2.loc hk⟩, fun h => ⟨h.1, h.2.1.bd, h.2.2.bd⟩⟩
theorem grownItem.start {w : World} {ok : Nat → Prop} {v : Value} {X : List UInt8} (h : (rowItem 5 1 v X.length (X.map U8)).P w ok) : (grownItem v X v X).P w ok := ⟨List.prefix_rfl, RowO.rowC h, h⟩
/-- One more behind the grown row. -/
theorem grown_more (w : World) (ty : TypeId) {ok : Nat → Prop} {v v2 : Value} {X Y : List UInt8} (h : (grownItem v X v2 Y).P w ok) (x : UInt8) (hl : Y.length < 140737488355328) :
    ∃ v' w', (Builtin.append_ #[26, 26] ty #[v2, .slice (some ⟨w.heap.size, 0, none⟩) 1 1]).run Try.prog (w.alloc (.cells #[U8 x] 5)) = .ok v' w' ∧ (grownItem v X v' (Y ++ [x])).P w' (grow ok w) ∧ Turn ok w w' := by
  obtain ⟨hp, hX, hY⟩ := h
  have hY1 : RowO w (fun b => v2.ownBlock = some b) 5 1 v2 Y.length (Y.map U8) := ⟨hY.1, fun k hk => hk⟩
  obtain ⟨v', w', hr, ho, ht, hk⟩ := row_more w 26 ty 5 hY1 (U8 x) Try.underlying26 info5 (by rfl) (by rfl) (.inl (by omega)) (by omega)
  refine ⟨v', w', hr, ⟨hp.trans (List.prefix_append _ _), ⟨hX.1, fun j u hj => ?_⟩, ?_⟩, ht.mono fun b hb => hY.2 b hb⟩
  · obtain ⟨g, c, h1, h2, h3⟩ := hX.2 j u hj
    refine ⟨g, c, h1, .inl h2, ?_⟩
    by_cases he : v2.ownBlock = some g
    · have hj2 : (Y.map U8)[j]? = some u := by
        obtain ⟨t, rfl⟩ := hp
        rw [List.map_append, List.getElem?_append_left (List.getElem?_eq_some_iff.1 hj).1]
        exact hj
      obtain ⟨g', c', e1, e2⟩ := hk j u hj2
      rw [e1] at he
      obtain rfl := Option.some.inj he
      exact e2
    · rw [World.cell?_of_block (w := w) (ht.block _ (World.block_lt_of_cell? w _ h3) he)]
      exact h3
  · have e : (Y ++ [x]).map U8 = Y.map U8 ++ [U8 x] := by simp
    rw [e, List.length_append]
    exact ho.mono fun b hb => hb.imp (fun h => hY.2 b h) id
end Go.Proofs.Ytdgcmihnbkamgaa
