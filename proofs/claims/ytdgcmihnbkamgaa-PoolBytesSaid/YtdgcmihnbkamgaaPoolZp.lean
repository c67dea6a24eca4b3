/- PoolBytes: the bytes that are put in, with two more behind them: in each order that Go leaves open. Condition: at most 2^47 - 4096 bytes. -/
import Derived.Test.YtdgcmihnbkamgaaPoolZb
import Derived.Laws.MakeOwn
namespace Go.Proofs.Ytdgcmihnbkamgaa
open Go.RowKit
set_option linter.unusedVariables false
set_option linter.unusedSimpArgs false
/-- The block of the two bytes. -/
def C78 : Obj := .cells #[.int .u8 77, .int .u8 78] 5
theorem bytes_run (w : World) {ok : Nat → Prop} {v : Value} {n : Nat} {X bs : List UInt8} (h : RowO w ok 5 1 v n (X.map U8)) (a : Addr) (c : Nat) (hnews : ∀ (j : Nat) u, (bs.map U8)[j]? = some u → w.cell? (a.add j) = some u) (hl : n + bs.length ≤ 140737488355328) :
    ∃ A' c' w', (Builtin.append_ #[26, 26] 26 #[v, .slice (some a) bs.length c]).run Try.prog w = .ok (.slice A' (n + bs.length) c') w' ∧ RowO w' (grow ok w) 5 1 (.slice A' (n + bs.length) c') (n + bs.length) ((X ++ bs).map U8) ∧ Turn ok w w' := by
  obtain ⟨i0, hi, hz0, hz1, hz2⟩ := info_parts info5
  obtain ⟨v', w', hr, ho, hg, _, hat⟩ := run_append_own_at (P := Try.prog) w 0 26 26 5 i0 _ 1 1 Try.underlying26 hi hz0 hz1 hz2 (by rfl) (by decide) v n _ h.1 a bs.length c (bs.map U8) (by simp) hnews (U8_one bs) (by unfold maxLen; omega) (by omega) (Nat.zero_le _)
  have hR : RowO w' (grow ok w) 5 1 v' (n + bs.length) ((X ++ bs).map U8) := ⟨by rw [List.map_append]; exact ho, fun k hk => by
    rcases hat with e1 | e1
    · exact .inl (h.2 k (by rw [← e1]; exact hk))
    · rw [e1] at hk
      obtain rfl := Option.some.inj hk
      exact .inr (Nat.le_refl _)⟩
  obtain ⟨A', c', rfl, _⟩ := RowO.shape hR
  exact ⟨A', c', w', hr, hR, Turn.of_grown hg fun k hk => .inl (h.2 k hk)⟩
theorem bytes_first (w : World) {ok okb : Nat → Prop} {g cap : Nat} {vb : Value} {bs : List UInt8} (h : RowO w ok 5 1 (.slice (some ⟨g, 0, none⟩) 0 cap) 0 []) (hb : Bys w okb vb bs) (hl : bs.length ≤ 140737488351232) :
    ∃ A' c' w', (Builtin.append_ #[26, 26] 26 #[.slice (some ⟨g, 0, none⟩) 0 cap, vb]).run Try.prog w = .ok (.slice A' bs.length c') w' ∧ RowO w' (grow ok w) 5 1 (.slice A' bs.length c') bs.length (bs.map U8) ∧ Turn ok w w' := by
  rcases hb with ⟨rfl, rfl⟩ | ⟨a, c, rfl, h2, h3, h4, h5⟩
  · obtain ⟨i0, hi, _⟩ := info_parts info5
    exact ⟨_, _, w, run_append_empty w 26 26 5 i0 Try.underlying26 hi _ _ none 0, h.mono fun b hb => .inl hb, Turn.refl _ _⟩
  · obtain ⟨A', c', w', hr, ho, ht⟩ := bytes_run w (X := []) (n := 0) h a c h5 (by omega)
    rw [Nat.zero_add] at hr ho
    exact ⟨A', c', w', hr, ho, ht⟩
theorem bytes_tail (w : World) {ok : Nat → Prop} {v : Value} {bs : List UInt8} (h : RowO w ok 5 1 v bs.length (bs.map U8)) (g c : Nat) (h0 : w.cell? ⟨g, 0, none⟩ = some (.int .u8 77)) (h1 : w.cell? ⟨g, 1, none⟩ = some (.int .u8 78)) (hl : bs.length ≤ 140737488351232) :
    ∃ A' c' w', (Builtin.append_ #[26, 26] 26 #[v, .slice (some ⟨g, 0, none⟩) 2 c]).run Try.prog w = .ok (.slice A' (bs.length + 2) c') w' ∧ RowO w' (grow ok w) 5 1 (.slice A' (bs.length + 2) c') (bs.length + 2) ((bs ++ [77, 78]).map U8) ∧ Turn ok w w' :=
  bytes_run w h ⟨g, 0, none⟩ c (bs := [77, 78]) (fun j u hu => by
    rw [add_zero_off]
    match j, hu with
    | 0, hu => cases hu; exact h0
    | 1, hu => cases hu; exact h1) (by show bs.length + 2 ≤ _; omega)
theorem bytes_make (W : World) (n : Nat) (hn : n ≤ 140737488351232) : ∃ w1, (Instr.makeSlice 26 (.int .i64 0) (.int .i64 ((n : Int) + 2))).run Try.prog W = .ok (.slice (some ⟨W.heap.size, 0, none⟩) 0 (n + 2)) w1 ∧ RowO w1 (fun b => W.heap.size ≤ b ∧ b < w1.heap.size) 5 1 (.slice (some ⟨W.heap.size, 0, none⟩) 0 (n + 2)) 0 [] ∧ Below W.heap.size W w1 := by
  obtain ⟨i0, hi, hz0, hz1, hz2⟩ := info_parts info5
  obtain ⟨w1, hr, ho, hg⟩ := run_make_own (P := Try.prog) W W.heap.size 26 5 i0 _ 1 Try.underlying26 hi hz0 hz1 .i64 .i64 (n + 2) (by rw [hz2]; omega) (by unfold maxLen; omega) (Nat.le_refl _)
  refine ⟨w1, by rw [show ((n : Int) + 2) = ((n + 2 : Nat) : Int) by simp]; exact hr, ⟨⟨ho.1, ho.2.imp (fun x => x) (fun ⟨g, c, cur, h1, h2, h3⟩ => ⟨g, c, cur, h1, Nat.zero_le _, h3⟩)⟩, fun k hk => ho.lt k hk⟩, ⟨hg.os, hg.tape, hg.output, hg.size, fun i hi => hg.block i hi (by simp)⟩⟩
theorem C78_cells (w : World) : (w.alloc C78).cell? ⟨w.heap.size, 0, none⟩ = some (.int .u8 77) ∧ (w.alloc C78).cell? ⟨w.heap.size, 1, none⟩ = some (.int .u8 78) ∧ Below w.heap.size w (w.alloc C78) ∧ (w.alloc C78).heap.size = w.heap.size + 1 := by
  have h := heap_alloc_new w C78
  unfold C78 at h ⊢
  exact ⟨by rw [Lib.cell_of_heap h]; rfl, by rw [Lib.cell_of_heap h]; rfl, (Below.refl _ _).alloc (Nat.le_refl _) _, by simp⟩
/-- What a way leaves. -/
def Left78 (W : World) (bs : List UInt8) (v : Value) (w' : World) : Prop := RowO w' (fun b => W.heap.size ≤ b) 5 1 v (bs.length + 2) ((bs ++ [77, 78]).map U8) ∧ Below W.heap.size W w'
section
variable (W : World) {vb : Value} {bs : List UInt8} (hb : Bys W (fun b => b < W.heap.size) vb bs) (hl : bs.length ≤ 140737488351232)
include hb hl
/-- The two bytes first. -/
theorem bytes_A : ∃ w1 A2 c2 w2 A3 c3 w3, (Instr.makeSlice 26 (.int .i64 0) (.int .i64 ((bs.length : Int) + 2))).run Try.prog (W.alloc C78) = .ok (.slice (some ⟨W.heap.size + 1, 0, none⟩) 0 (bs.length + 2)) w1 ∧
    (Builtin.append_ #[26, 26] 26 #[.slice (some ⟨W.heap.size + 1, 0, none⟩) 0 (bs.length + 2), vb]).run Try.prog w1 = .ok (.slice A2 bs.length c2) w2 ∧ (Builtin.append_ #[26, 26] 26 #[.slice A2 bs.length c2, .slice (some ⟨W.heap.size, 0, none⟩) 2 2]).run Try.prog w2 = .ok (.slice A3 (bs.length + 2) c3) w3 ∧
    Below W.heap.size W w1 ∧ Below W.heap.size W w2 ∧ Left78 W bs (.slice A3 (bs.length + 2) c3) w3 := by
  obtain ⟨k0, k1, hb0, hs0⟩ := C78_cells W
  obtain ⟨w1, r1, o1, b1⟩ := bytes_make (W.alloc C78) bs.length hl
  rw [hs0] at r1 o1
  have b1' := hb0.trans (b1.mono hb0.size)
  obtain ⟨A2, c2, w2, r2, o2, t2⟩ := bytes_first w1 o1 (hb.below b1') hl
  have b2 : Below W.heap.size W w2 := b1'.trans (t2.below (fun b hb h => by omega) b1'.size)
  have m0 := (cell_keeps b1 _ _ k0)
  have m1 := (cell_keeps b1 _ _ k1)
  have hk : ∀ {a : Addr} {u : Value}, a.block = W.heap.size → w1.cell? a = some u → w2.cell? a = some u := fun {a u} ha hc => by
    rw [World.cell?_of_block (w := w1) (t2.block _ (World.block_lt_of_cell? w1 _ hc) (fun k => by omega))]
    exact hc
  obtain ⟨A3, c3, w3, r3, o3, t3⟩ := bytes_tail w2 o2 W.heap.size 2 (hk rfl m0) (hk rfl m1) hl
  have s1 := b1.size
  have s2 := t2.size
  refine ⟨w1, A2, c2, w2, A3, c3, w3, r1, r2, r3, b1', b2, o3.mono fun b hb => ?_, b2.trans (t3.below (fun b hb h => ?_) b2.size)⟩
  · rcases hb with (hb | hb) | hb <;> omega
  · rcases h with h | h <;> omega
/-- The two bytes behind the room. -/
theorem bytes_B : ∃ w1 A2 c2 w2 A3 c3 w3, (Instr.makeSlice 26 (.int .i64 0) (.int .i64 ((bs.length : Int) + 2))).run Try.prog W = .ok (.slice (some ⟨W.heap.size, 0, none⟩) 0 (bs.length + 2)) w1 ∧
    (Builtin.append_ #[26, 26] 26 #[.slice (some ⟨W.heap.size, 0, none⟩) 0 (bs.length + 2), vb]).run Try.prog (w1.alloc C78) = .ok (.slice A2 bs.length c2) w2 ∧ (Builtin.append_ #[26, 26] 26 #[.slice A2 bs.length c2, .slice (some ⟨w1.heap.size, 0, none⟩) 2 2]).run Try.prog w2 = .ok (.slice A3 (bs.length + 2) c3) w3 ∧
    Below W.heap.size W w1 ∧ Below W.heap.size W (w1.alloc C78) ∧ Below W.heap.size W w2 ∧ Left78 W bs (.slice A3 (bs.length + 2) c3) w3 := by
  obtain ⟨w1, r1, o1, b1⟩ := bytes_make W bs.length hl
  obtain ⟨k0, k1, hb0, hs0⟩ := C78_cells w1
  have b1' := b1.trans (hb0.mono b1.size)
  have o1' : RowO (w1.alloc C78) (fun b => W.heap.size ≤ b ∧ b < w1.heap.size) 5 1 _ 0 [] := RowO.below o1 hb0
  obtain ⟨A2, c2, w2, r2, o2, t2⟩ := bytes_first (w1.alloc C78) o1' (hb.below b1') hl
  have s1 := b1.size
  have b2 : Below W.heap.size W w2 := b1'.trans (t2.below (fun b hb h => by omega) b1'.size)
  have hk : ∀ {a : Addr} {u : Value}, a.block = w1.heap.size → (w1.alloc C78).cell? a = some u → w2.cell? a = some u := fun {a u} ha hc => by
    rw [World.cell?_of_block (w := w1.alloc C78) (t2.block _ (World.block_lt_of_cell? _ _ hc) (fun k => by omega))]
    exact hc
  obtain ⟨A3, c3, w3, r3, o3, t3⟩ := bytes_tail w2 o2 w1.heap.size 2 (hk rfl k0) (hk rfl k1) hl
  have s2 := t2.size
  refine ⟨w1, A2, c2, w2, A3, c3, w3, r1, r2, r3, b1, b1', b2, o3.mono fun b hb => ?_, b2.trans (t3.below (fun b hb h => ?_) b2.size)⟩
  · rcases hb with (hb | hb) | hb <;> omega
  · rcases h with h | h <;> omega
/-- The two bytes behind the first ones. -/
theorem bytes_C : ∃ w1 A2 c2 w2 A3 c3 w3, (Instr.makeSlice 26 (.int .i64 0) (.int .i64 ((bs.length : Int) + 2))).run Try.prog W = .ok (.slice (some ⟨W.heap.size, 0, none⟩) 0 (bs.length + 2)) w1 ∧
    (Builtin.append_ #[26, 26] 26 #[.slice (some ⟨W.heap.size, 0, none⟩) 0 (bs.length + 2), vb]).run Try.prog w1 = .ok (.slice A2 bs.length c2) w2 ∧ (Builtin.append_ #[26, 26] 26 #[.slice A2 bs.length c2, .slice (some ⟨w2.heap.size, 0, none⟩) 2 2]).run Try.prog (w2.alloc C78) = .ok (.slice A3 (bs.length + 2) c3) w3 ∧
    Below W.heap.size W w1 ∧ Below W.heap.size W w2 ∧ Below W.heap.size W (w2.alloc C78) ∧ Left78 W bs (.slice A3 (bs.length + 2) c3) w3 := by
  obtain ⟨w1, r1, o1, b1⟩ := bytes_make W bs.length hl
  obtain ⟨A2, c2, w2, r2, o2, t2⟩ := bytes_first w1 o1 (hb.below b1) hl
  have s1 := b1.size
  have s2 := t2.size
  have b2 : Below W.heap.size W w2 := b1.trans (t2.below (fun b hb h => by omega) b1.size)
  obtain ⟨k0, k1, hb0, hs0⟩ := C78_cells w2
  have b3 := b2.trans (hb0.mono b2.size)
  obtain ⟨A3, c3, w3, r3, o3, t3⟩ := bytes_tail (w2.alloc C78) (RowO.below o2 hb0) w2.heap.size 2 k0 k1 hl
  refine ⟨w1, A2, c2, w2, A3, c3, w3, r1, r2, r3, b1, b2, b3, o3.mono fun b hb => ?_, b3.trans (t3.below (fun b hb h => ?_) b3.size)⟩
  · rcases hb with (hb | hb) | hb <;> omega
  · rcases h with h | h <;> omega
end
theorem Bys.pre {w : World} {ok : Nat → Prop} {A : Option Addr} {c n : Nat} {bs t : List UInt8} (h : Bys w ok (.slice A n c) (bs ++ t)) (ht : 0 < t.length) : Bys w ok (.slice A bs.length c) bs := by
  rcases h with ⟨_, e⟩ | ⟨a, c', e, h2, h3, h4, h5⟩
  · have := congrArg List.length e
    rw [List.length_append, List.length_nil] at this
    omega
  · injection e with e1 e2 e3
    subst e1 e3
    refine .inr ⟨a, c, rfl, by rw [List.length_append] at h2; omega, h3, fun hne => h4 (fun e => by have := congrArg List.length e; rw [List.length_append, List.length_nil] at this; omega), fun j u hj => h5 j u ?_⟩
    rw [List.map_append, List.getElem?_append_left (List.getElem?_eq_some_iff.1 hj).1]
    exact hj
end Go.Proofs.Ytdgcmihnbkamgaa
