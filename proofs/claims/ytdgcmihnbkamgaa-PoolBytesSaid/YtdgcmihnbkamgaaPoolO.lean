/- PoolOnce: begins; a pool beside the two rows that the statement keeps: the memory. Conditions: the rows' blocks are no blocks of the pool's. -/
import Derived.Test.YtdgcmihnbkamgaaPoolM
namespace Go.Proofs.Ytdgcmihnbkamgaa
open Go.RowKit
set_option linter.unusedVariables false
set_option linter.unusedSimpArgs false
/-- 'begins(s, with)', where it does. -/
theorem begins_calls (w : World) (a b : List UInt8) (h : b <+: a) : Calls Try.prog 17 #[.string ⟨a.toArray⟩, .string ⟨b.toArray⟩] w fun e w' => e = .returned (.bool true) ∧ w' = w := by
  have hl := h.length_le
  have ha : ByteArray.size ⟨a.toArray⟩ = a.length := by show a.toArray.size = _; simp
  have hb : ByteArray.size ⟨b.toArray⟩ = b.length := by show b.toArray.size = _; simp
  have h1 : (b.length : Int) ≤ (a.length : Int) := by omega
  have h2 : (0 : Int) ≤ (b.length : Int) := by omega
  have h3 : decide ((b.length : Int) ≤ (a.length : Int)) = true := decide_eq_true h1
  have h4 : (⟨a.toArray⟩ : ByteArray).extract 0 b.length = ⟨b.toArray⟩ := by
    rw [ByteArray.extract_mk]
    obtain ⟨t, rfl⟩ := h
    simp
  clear h
  go_enter Try.func17, Try.ntmps17
  go_wp2
  go_ret
  exact ⟨by simp, rfl⟩
theorem add_zero_off (g j : Nat) : (⟨g, 0, none⟩ : Addr).add j = ⟨g, j, none⟩ := by
  unfold Addr.add
  split <;> simp_all
def strV (b : List UInt8) : Value := .string ⟨b.toArray⟩
theorem info9 : (Try.prog.info? 9).map (fun i => (i.zero, i.size, i.bytes)) = some (some (.string ⟨#[]⟩), 1, 16) := by kernel_rfl
theorem info4 : (Try.prog.info? 4).map (fun i => (i.zero, i.size, i.bytes)) = some (some (.bool false), 1, 1) := by kernel_rfl
/-- The pool, the row of what each message held when it was new, the row of which are spent. -/
def Onc (w : World) (ex : Nat → Prop) (pb : Nat) (All : List Md) (v4 v5 : Value) (FS : List (List UInt8)) (SP : List Bool) : Prop :=
  ∃ okp ok4 ok5 : Nat → Prop, PoolAt w okp pb All ∧ RowO w ok4 9 1 v4 FS.length (FS.map strV) ∧ RowO w ok5 4 1 v5 SP.length (SP.map (Value.bool ·)) ∧ (∀ b, okp b → ¬ ok4 b ∧ ¬ ok5 b) ∧ (∀ b, ok4 b → ¬ ok5 b) ∧ (∀ b, okp b ∨ ok4 b ∨ ok5 b → ¬ ex b ∧ b < w.heap.size) ∧ ∀ b, ex b → b < w.heap.size
section
variable {w w' : World} {ex : Nat → Prop} {pb : Nat} {All All' : List Md} {v4 v5 : Value} {FS : List (List UInt8)} {SP : List Bool}
theorem Onc.below (h : Onc w ex pb All v4 v5 FS SP) (hb : Below w.heap.size w w') : Onc w' ex pb All v4 v5 FS SP := by
  obtain ⟨p, q, r, h1, h2, h3, h4, h5, h6, h7⟩ := h
  have hs := hb.size
  exact ⟨p, q, r, h1.below hb, h2.loc fun b _ hlt => hb.block b hlt, h3.loc fun b _ hlt => hb.block b hlt, h4, h5, fun b hb' => ⟨(h6 b hb').1, by have := (h6 b hb').2; omega⟩, fun b hb' => by have := h7 b hb'; omega⟩
theorem Onc.less {ex' : Nat → Prop} (h : Onc w ex pb All v4 v5 FS SP) (hm : ∀ b, ex' b → ex b) : Onc w ex' pb All v4 v5 FS SP := by
  obtain ⟨p, q, r, h1, h2, h3, h4, h5, h6, h7⟩ := h
  exact ⟨p, q, r, h1, h2, h3, h4, h5, fun b hb' => ⟨fun e => (h6 b hb').1 (hm b e), (h6 b hb').2⟩, fun b hb' => h7 b (hm b hb')⟩
/-- A new block is none of theirs. -/
theorem Onc.fence (h : Onc w ex pb All v4 v5 FS SP) (hb : Below w.heap.size w w') : Onc w' (fun b => ex b ∨ (w.heap.size ≤ b ∧ b < w'.heap.size)) pb All v4 v5 FS SP := by
  obtain ⟨p, q, r, h1, h2, h3, h4, h5, h6, h7⟩ := h
  have hs := hb.size
  refine ⟨p, q, r, h1.below hb, h2.loc fun b _ hlt => hb.block b hlt, h3.loc fun b _ hlt => hb.block b hlt, h4, h5, fun b hb' => ⟨fun e => ?_, by have := (h6 b hb').2; omega⟩, fun b hb' => ?_⟩
  · rcases e with e | e
    · exact (h6 b hb').1 e
    · have := (h6 b hb').2; omega
  · rcases hb' with e | e
    · have := h7 b e; omega
    · omega
/-- The pool turns; the rows stay. -/
theorem Onc.pool (h : Onc w ex pb All v4 v5 FS SP) : ∃ okp : Nat → Prop, PoolAt w okp pb All ∧ (∀ b, ex b → ¬ okp b) ∧ ∀ (w' : World) (All' : List Md), PoolAt w' (grow okp w) pb All' → Turn okp w w' → Onc w' ex pb All' v4 v5 FS SP ∧ Turn (fun b => ¬ ex b) w w' := by
  obtain ⟨p, q, r, h1, h2, h3, h4, h5, h6, h7⟩ := h
  refine ⟨p, h1, fun b hb h => (h6 b (.inl h)).1 hb, fun w' All' hp ht => ?_⟩
  have hs := ht.size
  refine ⟨⟨_, q, r, hp.bd, h2.loc fun b hb hlt => ht.block b hlt fun h => (h4 b h).1 hb, h3.loc fun b hb hlt => ht.block b hlt fun h => (h4 b h).2 hb, fun b hb => ?_, h5, fun b hb => ?_, fun b hb => by have := h7 b hb; omega⟩, ht.mono fun b hb => (h6 b (.inl hb)).1⟩
  · rcases hb.1 with e | e
    · exact h4 b e
    · exact ⟨fun h => by have := (h6 b (.inr (.inl h))).2; omega, fun h => by have := (h6 b (.inr (.inr h))).2; omega⟩
  · rcases hb with hb | hb | hb
    · refine ⟨fun e => ?_, hb.2⟩
      rcases hb.1 with e' | e'
      · exact (h6 b (.inl e')).1 e
      · have := h7 b e; omega
    · exact ⟨(h6 b (.inr (.inl hb))).1, by have := (h6 b (.inr (.inl hb))).2; omega⟩
    · exact ⟨(h6 b (.inr (.inr hb))).1, by have := (h6 b (.inr (.inr hb))).2; omega⟩
/-- A string is put behind 'first'. -/
theorem Onc.push4 (h : Onc w ex pb All v4 v5 FS SP) (s : List UInt8) (ty : TypeId) (hn : FS.length < 2199023255552) :
    ∃ v4' w', (Builtin.append_ #[46, 46] ty #[v4, .slice (some ⟨w.heap.size, 0, none⟩) 1 1]).run Try.prog (w.alloc (.cells #[.string ⟨s.toArray⟩] 9)) = .ok v4' w' ∧ Onc w' ex pb All v4' v5 (FS ++ [s]) SP ∧ Turn (fun b => ¬ ex b) w w' := by
  obtain ⟨p, q, r, h1, h2, h3, h4, h5, h6, h7⟩ := h
  obtain ⟨v', w', hr, ho, ht⟩ := row_push w 46 ty 9 h2 #[strV s] Try.underlying46 info9 (by rfl) (by decide) (by rfl) (by intro u hu; simp at hu; subst hu; rfl) (by omega) (by omega)
  have hs := ht.size
  have ho' := ho.bd
  refine ⟨v', w', hr, ⟨p, fun b => grow q w b ∧ b < w'.heap.size, r, h1.loc fun b hb hlt => ht.block b hlt fun h => (h4 b hb).1 h, ?_, h3.loc fun b hb hlt => ht.block b hlt fun h => h5 b h hb, fun b hb => ⟨fun h => ?_, (h4 b hb).2⟩, fun b hb h => ?_, fun b hb => ?_, fun b hb => by have := h7 b hb; omega⟩, ht.mono fun b hb => (h6 b (.inr (.inl hb))).1⟩
  · have e : (FS ++ [s]).map strV = FS.map strV ++ #[strV s].toList := by simp
    rw [e, List.length_append]
    exact ho'
  · rcases h.1 with e | e
    · exact (h4 b hb).1 e
    · have := (h6 b (.inl hb)).2; omega
  · rcases hb.1 with e | e
    · exact h5 b e h
    · have := (h6 b (.inr (.inr h))).2; omega
  · rcases hb with hb | hb | hb
    · exact ⟨(h6 b (.inl hb)).1, by have := (h6 b (.inl hb)).2; omega⟩
    · refine ⟨fun e => ?_, hb.2⟩
      rcases hb.1 with e' | e'
      · exact (h6 b (.inr (.inl e'))).1 e
      · have := h7 b e; omega
    · exact ⟨(h6 b (.inr (.inr hb))).1, by have := (h6 b (.inr (.inr hb))).2; omega⟩
/-- A 'false' is put behind 'spent'. -/
theorem Onc.push5 (h : Onc w ex pb All v4 v5 FS SP) (s : Bool) (ty : TypeId) (hn : SP.length < 2199023255552) :
    ∃ v5' w', (Builtin.append_ #[47, 47] ty #[v5, .slice (some ⟨w.heap.size, 0, none⟩) 1 1]).run Try.prog (w.alloc (.cells #[.bool s] 4)) = .ok v5' w' ∧ Onc w' ex pb All v4 v5' FS (SP ++ [s]) ∧ Turn (fun b => ¬ ex b) w w' := by
  obtain ⟨p, q, r, h1, h2, h3, h4, h5, h6, h7⟩ := h
  obtain ⟨v', w', hr, ho, ht⟩ := row_push w 47 ty 4 h3 #[.bool s] Try.underlying47 info4 (by rfl) (by decide) (by rfl) (by intro u hu; simp at hu; subst hu; rfl) (by omega) (by omega)
  have hs := ht.size
  have ho' := ho.bd
  refine ⟨v', w', hr, ⟨p, q, fun b => grow r w b ∧ b < w'.heap.size, h1.loc fun b hb hlt => ht.block b hlt fun h => (h4 b hb).2 h, h2.loc fun b hb hlt => ht.block b hlt fun h => h5 b hb h, ?_, fun b hb => ⟨(h4 b hb).1, fun h => ?_⟩, fun b hb h => ?_, fun b hb => ?_, fun b hb => by have := h7 b hb; omega⟩, ht.mono fun b hb => (h6 b (.inr (.inr hb))).1⟩
  · have e : (SP ++ [s]).map (Value.bool ·) = SP.map (Value.bool ·) ++ #[Value.bool s].toList := by simp
    rw [e, List.length_append]
    exact ho'
  · rcases h.1 with e | e
    · exact (h4 b hb).2 e
    · have := (h6 b (.inl hb)).2; omega
  · rcases h.1 with e | e
    · exact h5 b hb e
    · have := (h6 b (.inr (.inl hb))).2; omega
  · rcases hb with hb | hb | hb
    · exact ⟨(h6 b (.inl hb)).1, by have := (h6 b (.inl hb)).2; omega⟩
    · exact ⟨(h6 b (.inr (.inl hb))).1, by have := (h6 b (.inr (.inl hb))).2; omega⟩
    · refine ⟨fun e => ?_, hb.2⟩
      rcases hb.1 with e' | e'
      · exact (h6 b (.inr (.inr e'))).1 e
      · have := h7 b e; omega
/-- What can be read: the rows' shapes and cells. -/
theorem Onc.shape (h : Onc w ex pb All v4 v5 FS SP) : ∃ A4 c4 A5 c5, v4 = .slice A4 FS.length c4 ∧ v5 = .slice A5 SP.length c5 ∧ (∀ (j : Nat) f, FS[j]? = some f → ∃ g, A4 = some ⟨g, 0, none⟩ ∧ w.cell? ⟨g, j, none⟩ = some (strV f)) ∧ ∀ (j : Nat) s, SP[j]? = some s → ∃ g, A5 = some ⟨g, 0, none⟩ ∧ w.cell? ⟨g, j, none⟩ = some (.bool s) ∧ w.frozen? ⟨g, j, none⟩ = false ∧ ∀ s', Onc (w.setCell ⟨g, j, none⟩ (.bool s')) ex pb All v4 v5 FS (SP.set j s') ∧ Turn (fun b => ¬ ex b) w (w.setCell ⟨g, j, none⟩ (.bool s')) := by
  obtain ⟨p, q, r, h1, h2, h3, h4, h5, h6, h7⟩ := h
  obtain ⟨A4, c4, rfl, _, hp4⟩ := h2.shape
  obtain ⟨A5, c5, rfl, _, hp5⟩ := h3.shape
  refine ⟨A4, c4, A5, c5, rfl, rfl, fun j f hj => ?_, fun j s hj => ?_⟩
  · have hlt : j < FS.length := (List.getElem?_eq_some_iff.1 hj).1
    obtain ⟨g, rfl⟩ := hp4 (by omega)
    refine ⟨g, rfl, ?_⟩
    have := h2.1.cells (g := g) rfl j (strV f) (by rw [List.getElem?_map, hj]; rfl)
    rw [add_zero_off] at this
    exact this
  · have hlt : j < SP.length := (List.getElem?_eq_some_iff.1 hj).1
    obtain ⟨g, rfl⟩ := hp5 (by omega)
    have hc := h3.1.cells (g := g) rfl j (.bool s) (by rw [List.getElem?_map, hj]; rfl)
    have hok := h3.2 g rfl
    rw [add_zero_off] at hc
    refine ⟨g, rfl, hc, ?_, fun s' => ?_⟩
    · rcases h3.1.2 with ⟨hx, _⟩ | ⟨g', c', cur, hx, _, hg, _⟩
      · cases hx
      · injection hx with e1
        injection e1 with e1
        injection e1 with e1
        subst e1
        exact Lib.frozen_of_heap hg _
    · obtain ⟨hp, ht⟩ := RowO.put h3 j (.bool s')
      have hs : (w.setCell ⟨g, j, none⟩ (.bool s')).heap.size = w.heap.size := by simp [World.setCell]
      have ht' : Turn (fun b => b = g) w (w.setCell ⟨g, j, none⟩ (.bool s')) := Turn.setCell _ _ _ rfl
      refine ⟨⟨p, q, r, h1.loc fun b hb hlt => ht'.block b hlt fun e => (h4 b hb).2 (e ▸ hok), h2.loc fun b hb hlt => ht'.block b hlt fun e => h5 b hb (e ▸ hok), ?_, h4, h5, fun b hb => ⟨(h6 b hb).1, by have := (h6 b hb).2; omega⟩, fun b hb => by have := h7 b hb; omega⟩, ht.mono fun b hb => (h6 b (.inr (.inr hb))).1⟩
      have e : (SP.set j s').map (Value.bool ·) = (SP.map (Value.bool ·)).set j (.bool s') := by rw [List.map_set]
      rw [e, List.length_set]
      exact hp
end
end Go.Proofs.Ytdgcmihnbkamgaa
