/- PoolCopies: facts for the walk of the statement. Condition: the script as its memory says. -/
import Derived.Test.YtdgcmihnbkamgaaPoolD
import Derived.Deep.LoopGhost
namespace Go.Proofs.Ytdgcmihnbkamgaa
open Go.RowKit
set_option linter.unusedVariables false
set_option linter.unusedSimpArgs false
/-- One step of a script. -/
structure OpR where
  k : Int
  s : Bool
  n : Int
  x : Int
  y : Int
  v : Value
  b : List UInt8
def OpOk (W : World) (o : OpR) : Prop := int64 o.k ∧ int64 o.n ∧ int64 o.x ∧ int64 o.y ∧ Bys W (fun b => b < W.heap.size) o.v o.b ∧ o.b.length ≤ 140737488355328
/-- The script lies from A on. -/
def ScAt (W : World) (A : Option Addr) (ops : List OpR) : Prop := ∀ (i : Nat) (o : OpR), ops[i]? = some o → OpOk W o ∧ ∃ a, A = some a ∧ W.cell? (a.add (i * 6)) = some (.int .i64 o.k) ∧ W.cell? ⟨(a.add (i * 6)).block, (a.add (i * 6)).off + 1, none⟩ = some (.bool o.s) ∧ W.cell? ⟨(a.add (i * 6)).block, (a.add (i * 6)).off + 2, none⟩ = some (.int .i64 o.n) ∧
  W.cell? ⟨(a.add (i * 6)).block, (a.add (i * 6)).off + 3, none⟩ = some (.int .i64 o.x) ∧ W.cell? ⟨(a.add (i * 6)).block, (a.add (i * 6)).off + 4, none⟩ = some (.int .i64 o.y) ∧ W.cell? ⟨(a.add (i * 6)).block, (a.add (i * 6)).off + 5, none⟩ = some o.v
theorem cell_keeps {w w' : World} (hb : Below w.heap.size w w') (p : Addr) (v : Value) (h : w.cell? p = some v) : w'.cell? p = some v := (hb.cell (World.block_lt_of_cell? w p h)).trans h
/-- A variable that holds a step. -/
def Box6 (w : World) (b : Nat) (k : Int) (s : Bool) (n x y : Int) (v : Value) : Prop := w.heap[b]? = some (.cells #[.int .i64 k, .bool s, .int .i64 n, .int .i64 x, .int .i64 y, v] 28 (0, 0))
section
variable {w w' : World} {b : Nat} {k : Int} {s : Bool} {n x y : Int} {v : Value}
theorem Box6.bx (h : Box6 w b k s n x y v) : (w.cell? ⟨b, 0, none⟩ = some (.int .i64 k) ∧ w.cell? ⟨b, 1, none⟩ = some (.bool s) ∧ w.cell? ⟨b, 2, none⟩ = some (.int .i64 n) ∧ w.cell? ⟨b, 3, none⟩ = some (.int .i64 x) ∧ w.cell? ⟨b, 4, none⟩ = some (.int .i64 y) ∧ w.cell? ⟨b, 5, none⟩ = some v) ∧ w.frozen? ⟨b, 2, none⟩ = false :=
  ⟨⟨by rw [Lib.cell_of_heap h]; rfl, by rw [Lib.cell_of_heap h]; rfl, by rw [Lib.cell_of_heap h]; rfl, by rw [Lib.cell_of_heap h]; rfl, by rw [Lib.cell_of_heap h]; rfl, by rw [Lib.cell_of_heap h]; rfl⟩, Lib.frozen_of_heap h _⟩
theorem Box6.below (h : Box6 w b k s n x y v) (hb : Below w.heap.size w w') : Box6 w' b k s n x y v := (hb.block b (heap_lt h)).trans h
theorem Box6.turn {ok : Nat → Prop} (h : Box6 w b k s n x y v) (ht : Turn ok w w') (hn : ¬ ok b) : Box6 w' b k s n x y v := (ht.block b (heap_lt h) hn).trans h
theorem Box6.new (w : World) (k : Int) (s : Bool) (n x y : Int) (v : Value) : Box6 (w.alloc (.cells #[.int .i64 k, .bool s, .int .i64 n, .int .i64 x, .int .i64 y, v] 28)) w.heap.size k s n x y v := heap_alloc_new w _
theorem Box6.set2 (h : Box6 w b k s n x y v) (n' : Int) : Box6 (w.setCell ⟨b, 2, none⟩ (.int .i64 n')) b k s n' x y v := by
  unfold Box6 at h ⊢
  simp [World.setCell, Array.getElem?_modify, h]
end
/-- No message is longer than what may come in. -/
def Bnd (All : List Md) : Prop := ∀ m, m ∈ All → m.b.length ≤ 140737488355328
theorem Bnd.snoc {All : List Md} (h : Bnd All) {m : Md} (hm : m.b.length ≤ 140737488355328) : Bnd (All ++ [m]) := fun x hx => (List.mem_append.1 hx).elim (h x) fun e => by simp at e; subst e; exact hm
theorem Bnd.set {All : List Md} (h : Bnd All) {m : Md} (hm : m.b.length ≤ 140737488355328) (i : Nat) : Bnd (All.set i m) := fun x hx => (List.mem_or_eq_of_mem_set hx).elim (h x) fun e => by subst e; exact hm
theorem cutOf_le (b : List UInt8) (cut : Int) : (cutOf b cut).length ≤ b.length := by unfold cutOf; rw [List.length_take]; omega
/-- What holds ahead of each round. -/
structure Inv (w wr : World) (pb : Nat) (All : List Md) (i : Nat) : Prop where
  pool : PoolAt wr (fun b => w.heap.size ≤ b) pb All
  bl : Below w.heap.size w wr
  len : All.length ≤ i
  bnd : Bnd All
theorem Inv.below {w wr w' : World} {pb : Nat} {All : List Md} {i : Nat} (h : Inv w wr pb All i) (hb : Below wr.heap.size wr w') : Inv w w' pb All i := ⟨h.pool.below hb, h.bl.trans (hb.mono h.bl.size), h.len, h.bnd⟩
theorem Bys.keep {w w' : World} {v : Value} {bs : List UInt8} (h : Bys w (fun b => b < w.heap.size) v bs) (hb : Below w.heap.size w w') : Bys w' (fun b => b < w.heap.size) v bs := h.below hb
theorem under_mem {All : List Md} {k : Int} {m : Md} (h : under All k = some m) : m ∈ All := List.mem_of_getElem? (under_some h).2.2.1
theorem Bnd.spent {All : List Md} (h : Bnd All) (k : Int) : Bnd (spentAt All k) := by
  unfold spentAt
  split
  · rename_i m hm
    exact h.set (m := { m with s := true }) (h m (under_mem hm)) _
  · exact h
theorem under_old {All : List Md} {m : Md} {k : Int} (h : under All k = some m) (m' : Md) : under (All ++ [m']) k = some m ∧ k ≠ All.length + 1 := by
  obtain ⟨h1, h2, _⟩ := under_some h
  have hne : k ≠ All.length + 1 := by omega
  exact ⟨by rw [under_snoc, if_neg hne]; exact h, hne⟩
theorem under_new (All : List Md) (f t : Int) (b : List UInt8) : under (All ++ [⟨f, t, b, false⟩]) (All.length + 1) = some ⟨f, t, b, false⟩ := by
  rw [under_snoc, if_pos rfl]
  rfl
theorem under_keep {All : List Md} {x y : Int} {m m' m2 : Md} (hx : under All x = some m) (hy : under All y = some m2) (hne : y ≠ x) : under (All.set (x.toNat - 1) m') y = some m2 := by
  rw [under_set hx, if_neg hne]
  exact hy
theorem under_left {All : List Md} {x y : Int} {m2 : Md} (hy : under All y = some m2) (hne : y ≠ x) : under (spentAt All x) y = some m2 := by
  rw [under_spentAt, if_neg hne]
  exact hy
end Go.Proofs.Ytdgcmihnbkamgaa
