/- The pool's memory: a map keyed by numbers as a function, bytes as lists, the pool as the list of all messages ever made. No condition. -/
import Derived.Test.YtdgcmihnbkamgaaProg
import Derived.WalkKit
import Derived.Handy
import Derived.WalkLawsBesides
import Derived.KernelRfl
import Derived.Maps.OwnSet
import Derived.Maps.OwnOps
import Derived.Maps.Views
import Derived.Maps.AppendAt
import Derived.Deep.AppendLies
import Derived.Deep.RegionHeld3
import Derived.Laws.BytesArg
import Derived.Lib.Hide
import Derived.Below
import Derived.RowKit
import Derived.RowKit3
import Derived.OwnWalk
import Derived.Laws.OwnMore
namespace Go.Proofs.Ytdgcmihnbkamgaa
open Go.RowKit
set_option linter.unusedVariables false
theorem heap_lt {w : World} {b : Nat} {o : Obj} (h : w.heap[b]? = some o) : b < w.heap.size := (Array.getElem?_eq_some_iff.1 h).1
def heldR (v : Value) : Option (DataW Value × List MemPlace) := some (.held v, [])
def int64 (k : Int) : Prop := -9223372036854775808 ≤ k ∧ k ≤ 9223372036854775807
theorem wf_of {k : Int} (h : int64 k) : (Lit.int .i64 k).wf = true := by
  have e1 : IntKind.i64.min = -9223372036854775808 := by decide
  have e2 : IntKind.i64.max = 9223372036854775807 := by decide
  simp only [Lit.wf, Bool.and_eq_true, decide_eq_true_eq]
  unfold int64 at h
  omega
/-- A datum reads as a function of the key. -/
def Reads (D : DataW Value) (F : Int → Option Value) : Prop := ∀ k : Int, int64 k → match F k with
  | none => Maps.has D (.int .i64 k) = false
  | some v => Maps.has D (.int .i64 k) = true ∧ ∀ z, D.atKey (.int .i64 k) z = .held v
/-- Block b is a map of at most n entries, keyed by ints, that reads as F. -/
def MapF (w : World) (b n : Nat) (F : Int → Option Value) : Prop := ∃ D : DataW Value, w.ownsMap Try.prog 3 heldR b n D ∧ Reads D F
theorem K3 : Maps.Keyed Try.prog 3 := Maps.int_keyed Try.underlying3
def letter0 : Value := .agg #[.int .i64 0, .int .i64 0, .slice none 0 0]
theorem zero31 (w : World) : (zeroValue 31).run Try.prog w = .ok letter0 w := by
  have h : (Try.prog.info? 31).bind (·.zero) = some letter0 := by kernel_rfl
  obtain ⟨i, hi, hz⟩ := Option.bind_eq_some_iff.1 h
  simp [zeroValue, typeInfo, hi, hz]
theorem key_of {k : Int} (h : int64 k) : keyOf Try.prog 3 (.int .i64 k) = some (.int .i64 k) := Maps.keyOf_int_mk Try.underlying3 (wf_of h)
theorem lit_ne {a b : Int} (h : a ≠ b) : Lit.int .i64 a ≠ Lit.int .i64 b := fun e => h (by injection e)
section
variable {w : World} {b n : Nat} {F : Int → Option Value}
theorem MapF.lt (h : MapF w b n F) : b < w.heap.size := by obtain ⟨D, h, _⟩ := h; exact h.lt
theorem MapF.block (h : MapF w b n F) {w' : World} (hb : w'.heap[b]? = w.heap[b]?) : MapF w' b n F := by
  obtain ⟨D, ⟨es, clock, h1, h2⟩, hr⟩ := h
  exact ⟨D, ⟨es, clock, hb.trans h1, h2⟩, hr⟩
theorem MapF.mono (h : MapF w b n F) {n' : Nat} (hn : n ≤ n') : MapF w b n' F := by
  obtain ⟨D, h, hr⟩ := h
  exact ⟨D, h.mono hn, hr⟩
theorem MapF.made (w : World) : MapF (w.alloc (.map #[] 0)) w.heap.size 0 (fun _ => none) :=
  ⟨.map [], World.ownsMap_made w Try.prog 3 heldR, fun k _ => rfl⟩
/-- 'v, ok := m[k]'. -/
theorem MapF.look (h : MapF w b n F) {k : Int} (hk : int64 k) :
    (Instr.lookup 62 (.map (some b)) (.int .i64 k) true).run Try.prog w = .ok (.tuple #[(F k).getD letter0, .bool (F k).isSome]) w := by
  obtain ⟨D, h, hr⟩ := h
  obtain ⟨v, ps, hrun, hv⟩ := h.look_ok K3 Try.underlying62 (zero31 w) (zd := .held letter0) (zp := []) rfl (key_of hk)
  have h1 := hr k hk
  have hv' : DataW.held v = D.atKey (.int .i64 k) (.held letter0) := by
    have := congrArg Option.some (rfl : v = v)
    simp only [heldR, Option.some.injEq, Prod.mk.injEq] at hv
    exact hv.1
  rw [hrun]
  cases hF : F k with
  | none =>
    rw [hF] at h1
    rw [Maps.atKey_of_not_has h1] at hv'
    have e : v = letter0 := by injection hv'
    rw [h1, e]
    rfl
  | some x =>
    rw [hF] at h1
    rw [h1.2] at hv'
    have e : v = x := by injection hv'
    rw [h1.1, e]
    rfl
theorem tight {D : DataW Value} (h : w.ownsMap Try.prog 3 heldR b n D) : w.ownsMap Try.prog 3 heldR b (Maps.size D) D := by
  obtain ⟨es, clock, hb, F, _, rfl⟩ := h
  exact ⟨es, clock, hb, F, by simp [Maps.size, length_sorted], rfl⟩
theorem keylit {k : Int} : WideAt.IsKeyLit (.int .i64 k) := trivial
theorem Reads.put {D : DataW Value} (hr : Reads D F) (hm : Maps.IsMap D) (k : Int) (v : Value) : Reads (D.put (.int .i64 k) (.held v)) (fun x => if x = k then some v else F x) := by
  intro x hx
  by_cases e : x = k
  · subst e
    simp only
    exact ⟨Maps.has_put_same hm keylit _, fun z => Maps.atKey_put_same hm keylit _ z⟩
  · simp only [if_neg e]
    have h1 := hr x hx
    cases hF : F x with
    | none =>
      rw [hF] at h1
      simp only
      rw [Maps.has_put_other (lit_ne e)]
      exact h1
    | some y =>
      rw [hF] at h1
      simp only
      exact ⟨by rw [Maps.has_put_other (lit_ne e)]; exact h1.1, fun z => by rw [Maps.atKey_put_other (lit_ne e)]; exact h1.2 z⟩
theorem Reads.del {D : DataW Value} (hr : Reads D F) (k : Int) : Reads (D.del (.int .i64 k)) (fun x => if x = k then none else F x) := by
  intro x hx
  by_cases e : x = k
  · subst e
    simp only
    exact Maps.has_del_same
  · simp only [if_neg e]
    have h1 := hr x hx
    cases hF : F x with
    | none =>
      rw [hF] at h1
      simp only
      rw [Maps.has_del_other (lit_ne e)]
      exact h1
    | some y =>
      rw [hF] at h1
      simp only
      exact ⟨by rw [Maps.has_del_other (lit_ne e)]; exact h1.1, fun z => by rw [Maps.atKey_del_other (lit_ne e)]; exact h1.2 z⟩
/-- 'm[k] = v': a new key takes room for one more. -/
theorem MapF.put (h : MapF w b n F) (hn : n < maxLen) {k : Int} (hk : int64 k) (v : Value) :
    ∃ w', (Instr.mapUpdate 62 (.map (some b)) (.int .i64 k) v).run Try.prog w = .ok () w' ∧ MapF w' b (if (F k).isSome then n else n + 1) (fun x => if x = k then some v else F x) ∧ w.grownBy w' (some b) ∧ w'.heap.size = w.heap.size := by
  obtain ⟨D, h, hr⟩ := h
  obtain ⟨w', hrun, h', hg⟩ := h.store K3 Try.underlying62 hn (key_of hk) (val := v) (d := .held v) (ps := []) rfl
  refine ⟨w', hrun, ⟨_, ?_, hr.put h.isMap k v⟩, hg.grown, ?_⟩
  · have hs := Maps.size_put (k := .int .i64 k) (h.tidy K3) (.held v)
    have h1 := hr k hk
    have hle := h.size_le
    refine (tight h').mono ?_
    rw [hs]
    cases hF : F k with
    | none =>
      rw [hF] at h1
      rw [h1]
      simp
      omega
    | some y =>
      rw [hF] at h1
      rw [h1.1]
      simp
      omega
  · obtain ⟨es, clock, es', clock', hb, rfl⟩ := hg
    simp [ChangeMaps.setBlock]
/-- 'delete(m, k)'. -/
theorem MapF.drop (h : MapF w b n F) {k : Int} (hk : int64 k) (ty : TypeId) :
    ∃ w', (Builtin.delete_ #[62, 3] ty #[.map (some b), .int .i64 k]).run Try.prog w = .ok (.tuple #[]) w' ∧ MapF w' b n (fun x => if x = k then none else F x) ∧ w.grownBy w' (some b) ∧ w'.heap.size = w.heap.size := by
  obtain ⟨D, h, hr⟩ := h
  obtain ⟨w', hrun, h', hg⟩ := h.drop K3 Try.underlying62 (key_of hk) ty
  refine ⟨w', hrun, ⟨_, h', hr.del k⟩, hg.grown, ?_⟩
  obtain ⟨es, clock, es', clock', hb, rfl⟩ := hg
  simp [ChangeMaps.setBlock]
end
/-- A byte as a value. -/
def U8 (x : UInt8) : Value := .int .u8 x.toNat
/-- Bytes that are read: nil, or so many cells from a on; the block is one of 'ok'. -/
def Bys (w : World) (ok : Nat → Prop) (v : Value) (bs : List UInt8) : Prop :=
  (v = .slice none 0 0 ∧ bs = []) ∨ ∃ a c, v = .slice (some a) bs.length c ∧ bs.length ≤ c ∧ c ≤ maxLen ∧ (bs ≠ [] → ok a.block) ∧ ∀ j u, (bs.map U8)[j]? = some u → w.cell? (a.add j) = some u
/-- Bytes of the call's own. -/
def RowB (w : World) (B : Nat) (v : Value) (bs : List UInt8) : Prop := w.ownsRow B 5 1 v bs.length (bs.map U8)
theorem add_block (a : Addr) (k : Nat) : (a.add k).block = a.block := by unfold Addr.add; split <;> rfl
theorem Bys.mono {w : World} {ok ok' : Nat → Prop} {v : Value} {bs : List UInt8} (h : Bys w ok v bs) (hm : ∀ b, ok b → ok' b) : Bys w ok' v bs := by
  rcases h with h | ⟨a, c, h1, h2, h3, h4, h5⟩
  · exact .inl h
  · exact .inr ⟨a, c, h1, h2, h3, fun h => hm _ (h4 h), h5⟩
theorem Bys.loc {w w' : World} {ok : Nat → Prop} {v : Value} {bs : List UInt8} (h : Bys w ok v bs) (hk : ∀ b, ok b → b < w.heap.size → w'.heap[b]? = w.heap[b]?) : Bys w' ok v bs := by
  rcases h with h | ⟨a, c, h1, h2, h3, h4, h5⟩
  · exact .inl h
  · refine .inr ⟨a, c, h1, h2, h3, h4, fun j u hj => ?_⟩
    have hc := h5 j u hj
    have hlt := World.block_lt_of_cell? w _ hc
    rw [add_block] at hlt
    rw [World.cell?_of_block (w := w) (by rw [add_block]; exact hk _ (h4 (fun e => by simp [e] at hj)) hlt)]
    exact hc
theorem Bys.bd {w : World} {ok : Nat → Prop} {v : Value} {bs : List UInt8} (h : Bys w ok v bs) : Bys w (fun b => ok b ∧ b < w.heap.size) v bs := by
  rcases h with h | ⟨a, c, h1, h2, h3, h4, h5⟩
  · exact .inl h
  · refine .inr ⟨a, c, h1, h2, h3, fun h => ⟨h4 h, ?_⟩, h5⟩
    cases bs with
    | nil => exact absurd rfl h
    | cons x bs =>
      have hlt := World.block_lt_of_cell? w _ (h5 0 (U8 x) rfl)
      rw [add_block] at hlt
      exact hlt
theorem Bys.below {w w' : World} {ok : Nat → Prop} {v : Value} {bs : List UInt8} (h : Bys w ok v bs) (hb : Below w.heap.size w w') : Bys w' ok v bs := h.loc fun b _ hlt => hb.block b hlt
theorem RowB.bys {w : World} {B : Nat} {v : Value} {bs : List UInt8} (h : RowB w B v bs) : Bys w (fun b => B ≤ b ∧ b < w.heap.size) v bs := by
  unfold RowB at h
  rcases h.2 with ⟨rfl, h0⟩ | ⟨g, c, cur, rfl, hB, hg, hnc, hcm, hcs, htk⟩
  · exact .inl ⟨rfl, List.eq_nil_of_length_eq_zero h0⟩
  · refine .inr ⟨⟨g, 0, none⟩, c, rfl, hnc, hcm, fun _ => ⟨hB, heap_lt hg⟩, h.cells (g := g) rfl⟩
theorem RowB.below {w w' : World} {B : Nat} {v : Value} {bs : List UInt8} (h : RowB w B v bs) (hb : Below w.heap.size w w') : RowB w' B v bs := by
  unfold RowB at h ⊢
  refine ⟨h.1, h.2.imp (fun x => x) (fun ⟨g, c, cur, h1, h2, h3, h4⟩ => ⟨g, c, cur, h1, h2, (hb.block g (heap_lt h3)).trans h3, h4⟩)⟩
theorem RowB.keep {w w' : World} {B : Nat} {v : Value} {bs : List UInt8} (h : RowB w B v bs) (hk : ∀ b, B ≤ b → b < w.heap.size → w'.heap[b]? = w.heap[b]?) : RowB w' B v bs := by
  unfold RowB at h ⊢
  refine ⟨h.1, h.2.imp (fun x => x) (fun ⟨g, c, cur, h1, h2, h3, h4⟩ => ⟨g, c, cur, h1, h2, (hk g h2 (heap_lt h3)).trans h3, h4⟩)⟩
theorem RowB.lower {w : World} {B B' : Nat} {v : Value} {bs : List UInt8} (h : RowB w B v bs) (hb : B' ≤ B) : RowB w B' v bs := by
  unfold RowB at h ⊢
  exact ⟨h.1, h.2.imp (fun x => x) (fun ⟨g, c, cur, h1, h2, h3⟩ => ⟨g, c, cur, h1, Nat.le_trans hb h2, h3⟩)⟩
theorem RowB.set {w : World} {B : Nat} {v : Value} {bs : List UInt8} (h : RowB w B v bs) (p : Addr) (u : Value) (hp : p.block < B) : RowB (w.setCell p u) B v bs := h.keep fun b hb _ => Below.heap_setCell _ _ _ _ (by omega)
/-- A variable of three cells: a letter. -/
def Box3 (w : World) (b : Nat) (v0 v1 v2 : Value) : Prop := w.heap[b]? = some (.cells #[v0, v1, v2] 31 (0, 0))
theorem Box3.bx {w : World} {b : Nat} {v0 v1 v2 : Value} (h : Box3 w b v0 v1 v2) : (w.cell? ⟨b, 0, none⟩ = some v0 ∧ w.cell? ⟨b, 1, none⟩ = some v1 ∧ w.cell? ⟨b, 2, none⟩ = some v2) ∧ w.frozen? ⟨b, 0, none⟩ = false ∧ w.frozen? ⟨b, 1, none⟩ = false ∧ w.frozen? ⟨b, 2, none⟩ = false :=
  ⟨⟨by rw [Lib.cell_of_heap h]; rfl, by rw [Lib.cell_of_heap h]; rfl, by rw [Lib.cell_of_heap h]; rfl⟩, Lib.frozen_of_heap h _, Lib.frozen_of_heap h _, Lib.frozen_of_heap h _⟩
theorem Box3.below {w w' : World} {b : Nat} {v0 v1 v2 : Value} (h : Box3 w b v0 v1 v2) (hb : Below w.heap.size w w') : Box3 w' b v0 v1 v2 := (hb.block b (heap_lt h)).trans h
theorem Box3.alloc {w : World} {b : Nat} {v0 v1 v2 : Value} (h : Box3 w b v0 v1 v2) (o : Obj) : Box3 (w.alloc o) b v0 v1 v2 := h.below ((Below.refl _ _).alloc (Nat.le_refl _) _)
theorem Box3.new (w : World) (v0 v1 v2 : Value) : Box3 (w.alloc (.cells #[v0, v1, v2] 31)) w.heap.size v0 v1 v2 := heap_alloc_new w _
theorem Bys.shape {w : World} {ok : Nat → Prop} {v : Value} {bs : List UInt8} (h : Bys w ok v bs) : ∃ A c, v = .slice A bs.length c := by
  rcases h with ⟨rfl, rfl⟩ | ⟨a, c, h, _⟩
  · exact ⟨none, 0, rfl⟩
  · exact ⟨some a, c, h⟩
/-- 'string(b)'. -/
theorem Bys.str {w : World} {ok : Nat → Prop} {v : Value} {bs : List UInt8} (h : Bys w ok v bs) : (convert 26 9 v).run Try.prog w = .ok (.string ⟨bs.toArray⟩) w := by
  rcases h with ⟨rfl, rfl⟩ | ⟨⟨g, off, sp⟩, c, rfl, _, _, _, h⟩
  · exact run_convert_bytes_nil w 26 5 Try.underlying26 Try.underlying5 0 0 9 Try.underlying9
  · have hl : (loadCells ⟨g, off, sp⟩ bs.length).run Try.prog w = .ok ((bs.map fun x => (x.toNat : Int)).map (Value.int .u8)).toArray w := by
      have := run_loadCells_list (P := Try.prog) w ⟨g, off, sp⟩ (bs.map U8) h
      rw [List.length_map] at this
      rw [List.map_map]
      exact this
    rw [run_convert_bytes_string w 26 9 5 _ _ c Try.underlying26 Try.underlying5 Try.underlying9, run_bytesToString w _ bs.length c _ hl, foldl_push_bytes]
    congr 2
    rw [List.map_map]
    have e : (bs.map ((fun n : Int => UInt8.ofNat n.toNat) ∘ fun x : UInt8 => (x.toNat : Int))) = bs := by
      rw [show ((fun n : Int => UInt8.ofNat n.toNat) ∘ fun x : UInt8 => (x.toNat : Int)) = id by funext x; simp]
      simp
    rw [e]
    simp [ByteArray.empty, ByteArray.emptyWithCapacity]
    rfl
theorem U8_one (bs : List UInt8) : ∀ u ∈ bs.map U8, u.oneCell' = true := by
  intro u hu
  obtain ⟨x, _, rfl⟩ := List.mem_map.1 hu
  rfl
/-- A message: from, to, its bytes; spent? -/
structure Md where
  f : Int
  t : Int
  b : List UInt8
  s : Bool
def under (All : List Md) (k : Int) : Option Md := if 1 ≤ k then (match All[k.toNat - 1]? with | some m => if m.s then none else some m | none => none) else none
/-- What the map holds for a message. -/
def Holds (w : World) (ok : Nat → Prop) (pb mb : Nat) (x : Option Md) (y : Option Value) : Prop :=
  match x with
  | none => y = none
  | some m => ∃ sl, y = some (.agg #[.int .i64 m.f, .int .i64 m.t, sl]) ∧ Bys w (fun b => ok b ∧ b ≠ pb ∧ b ≠ mb) sl m.b
/-- The pool behind the pointer to block pb: all messages ever made; its blocks are among 'ok'. -/
def PoolAt (w : World) (ok : Nat → Prop) (pb : Nat) (All : List Md) : Prop :=
  ∃ mb F, w.heap[pb]? = some (.cells #[.int .i64 All.length, .map (some mb)] 64 (0, 0)) ∧ ok pb ∧ ok mb ∧ MapF w mb All.length F ∧ ∀ k : Int, int64 k → Holds w ok pb mb (under All k) (F k)
theorem Holds.mono {w : World} {ok ok' : Nat → Prop} {pb mb : Nat} {x : Option Md} {y : Option Value} (h : Holds w ok pb mb x y) (hm : ∀ b, ok b → ok' b) : Holds w ok' pb mb x y := by
  cases x with
  | none => exact h
  | some m => obtain ⟨sl, h1, h2⟩ := h; exact ⟨sl, h1, h2.mono fun b hb => ⟨hm b hb.1, hb.2⟩⟩
theorem Holds.loc {w w' : World} {ok : Nat → Prop} {pb mb : Nat} {x : Option Md} {y : Option Value} (h : Holds w ok pb mb x y) (hk : ∀ b, ok b → b ≠ pb → b ≠ mb → b < w.heap.size → w'.heap[b]? = w.heap[b]?) : Holds w' ok pb mb x y := by
  cases x with
  | none => exact h
  | some m => obtain ⟨sl, h1, h2⟩ := h; exact ⟨sl, h1, h2.loc fun b hb => hk b hb.1 hb.2.1 hb.2.2⟩
theorem PoolAt.mono {w : World} {ok ok' : Nat → Prop} {pb : Nat} {All : List Md} (h : PoolAt w ok pb All) (hm : ∀ b, ok b → ok' b) : PoolAt w ok' pb All := by
  obtain ⟨mb, F, h1, h2, h3, h4, h5⟩ := h
  exact ⟨mb, F, h1, hm _ h2, hm _ h3, h4, fun k hk => (h5 k hk).mono hm⟩
theorem PoolAt.loc {w w' : World} {ok : Nat → Prop} {pb : Nat} {All : List Md} (h : PoolAt w ok pb All) (hk : ∀ b, ok b → b < w.heap.size → w'.heap[b]? = w.heap[b]?) : PoolAt w' ok pb All := by
  obtain ⟨mb, F, h1, h2, h3, h4, h5⟩ := h
  exact ⟨mb, F, (hk _ h2 (heap_lt h1)).trans h1, h2, h3, h4.block (hk _ h3 h4.lt), fun k hk' => (h5 k hk').loc fun b hb _ _ hlt => hk b hb hlt⟩
theorem PoolAt.bd {w : World} {ok : Nat → Prop} {pb : Nat} {All : List Md} (h : PoolAt w ok pb All) : PoolAt w (fun b => ok b ∧ b < w.heap.size) pb All := by
  obtain ⟨mb, F, h1, h2, h3, h4, h5⟩ := h
  refine ⟨mb, F, h1, ⟨h2, heap_lt h1⟩, ⟨h3, h4.lt⟩, h4, fun k hk => ?_⟩
  have h := h5 k hk
  cases hx : under All k with
  | none => rw [hx] at h; exact h
  | some m =>
    rw [hx] at h
    obtain ⟨sl, e, hb⟩ := h
    exact ⟨sl, e, hb.bd.mono fun b hb => ⟨⟨hb.1.1, hb.2⟩, hb.1.2⟩⟩
theorem PoolAt.lt {w : World} {ok : Nat → Prop} {pb : Nat} {All : List Md} (h : PoolAt w ok pb All) : pb < w.heap.size := by obtain ⟨mb, F, h1, _⟩ := h; exact heap_lt h1
theorem PoolAt.below {w w' : World} {ok : Nat → Prop} {pb : Nat} {All : List Md} (h : PoolAt w ok pb All) (hb : Below w.heap.size w w') : PoolAt w' ok pb All := h.loc fun b _ hlt => hb.block b hlt
/-- The pool's struct. -/
def PB (w : World) (pb : Nat) (n : Int) (mb : Nat) : Prop := w.heap[pb]? = some (.cells #[.int .i64 n, .map (some mb)] 64 (0, 0))
theorem PB.bx {w : World} {pb : Nat} {n : Int} {mb : Nat} (h : PB w pb n mb) : (w.cell? ⟨pb, 0, none⟩ = some (.int .i64 n) ∧ w.cell? ⟨pb, 1, none⟩ = some (.map (some mb))) ∧ w.frozen? ⟨pb, 0, none⟩ = false ∧ w.frozen? ⟨pb, 1, none⟩ = false :=
  ⟨⟨by rw [Lib.cell_of_heap h]; rfl, by rw [Lib.cell_of_heap h]; rfl⟩, Lib.frozen_of_heap h _, Lib.frozen_of_heap h _⟩
theorem PB.block {w w' : World} {pb : Nat} {n : Int} {mb : Nat} (h : PB w pb n mb) (hb : w'.heap[pb]? = w.heap[pb]?) : PB w' pb n mb := hb.trans h
theorem PB.below {w w' : World} {pb : Nat} {n : Int} {mb : Nat} (h : PB w pb n mb) (hb : Below w.heap.size w w') : PB w' pb n mb := (hb.block _ (heap_lt h)).trans h
theorem PB.ne {w : World} {pb : Nat} {n : Int} {mb k : Nat} {F : Int → Option Value} (h : PB w pb n mb) (hm : MapF w mb k F) : pb ≠ mb := by
  obtain ⟨D, ⟨es, clock, h1, _⟩, _⟩ := hm
  intro e
  subst e
  unfold PB at h
  rw [h] at h1
  cases h1
theorem PB.set0 {w : World} {pb : Nat} {n : Int} {mb : Nat} (h : PB w pb n mb) (n' : Int) : PB (w.setCell ⟨pb, 0, none⟩ (.int .i64 n')) pb n' mb := by
  unfold PB at h ⊢
  simp [World.setCell, Array.getElem?_modify, h]
/-- Bytes don't lie in the pool's struct. -/
theorem Bys.setPB {w : World} {ok : Nat → Prop} {v : Value} {bs : List UInt8} (h : Bys w ok v bs) {pb : Nat} {n : Int} {mb : Nat} (hp : PB w pb n mb) (u : Value) : Bys (w.setCell ⟨pb, 0, none⟩ u) ok v bs := by
  rcases h with h | ⟨a, c, h1, h2, h3, h4, h5⟩
  · exact .inl h
  · refine .inr ⟨a, c, h1, h2, h3, h4, fun j x hj => ?_⟩
    have hc := h5 j x hj
    rw [World.cell?_setCell_far _ _ _ _ ?_]
    · exact hc
    · rw [add_block]
      show pb ≠ a.block
      intro e
      obtain ⟨y, _, rfl⟩ : ∃ y, bs[j]? = some y ∧ U8 y = x := by simpa using hj
      unfold PB at hp
      obtain ⟨g, off, sp⟩ := a
      simp at e
      subst e
      unfold World.cell? at hc
      rw [add_block] at hc
      simp only [hp] at hc
      have hq : ∀ o : Nat, (#[Value.int .i64 n, .map (some mb)] : Array Value)[o]? ≠ some (U8 y) := by
        intro o
        match o with
        | 0 => simp [U8]
        | 1 => simp [U8]
        | o + 2 => simp
      cases hsp : ((⟨pb, off, sp⟩ : Addr).add j).spot with
      | none => rw [hsp] at hc; exact hq _ (by simpa using hc)
      | some s => rw [hsp] at hc; simp at hc
theorem under_snoc (All : List Md) (m : Md) (k : Int) : under (All ++ [m]) k = if k = All.length + 1 then (if m.s then none else some m) else under All k := by
  unfold under
  by_cases h : k = All.length + 1
  · rw [if_pos h, if_pos (by omega), List.getElem?_append_right (by omega)]
    have : k.toNat - 1 - All.length = 0 := by omega
    rw [this]
    rfl
  · rw [if_neg h]
    by_cases h1 : 1 ≤ k
    · rw [if_pos h1, if_pos h1]
      by_cases h2 : k.toNat - 1 < All.length
      · rw [List.getElem?_append_left h2]
      · have e1 : (All ++ [m])[k.toNat - 1]? = none := List.getElem?_eq_none (by simp; omega)
        have e2 : All[k.toNat - 1]? = none := List.getElem?_eq_none (by omega)
        rw [e1, e2]
    · rw [if_neg h1, if_neg h1]
theorem under_some {All : List Md} {k : Int} {m : Md} (h : under All k = some m) : 1 ≤ k ∧ k.toNat - 1 < All.length ∧ All[k.toNat - 1]? = some m ∧ m.s = false := by
  unfold under at h
  split at h
  · rename_i h1
    split at h
    · rename_i m' hm
      split at h
      · cases h
      · rename_i hs
        cases h
        exact ⟨h1, (List.getElem?_eq_some_iff.1 hm).1, hm, by simpa using hs⟩
    · cases h
  · cases h
theorem under_none_big (All : List Md) : under All (All.length + 1) = none := by
  unfold under
  rw [if_pos (by omega), List.getElem?_eq_none (by omega)]
/-- Message k becomes m'. -/
theorem under_set {All : List Md} {k x : Int} {m m' : Md} (h : under All k = some m) : under (All.set (k.toNat - 1) m') x = if x = k then (if m'.s then none else some m') else under All x := by
  obtain ⟨h1, h2, h3, h4⟩ := under_some h
  unfold under
  by_cases e : x = k
  · subst e
    rw [if_pos rfl, if_pos h1, List.getElem?_set, if_pos rfl, if_pos h2]
  · rw [if_neg e]
    by_cases hx : 1 ≤ x
    · rw [if_pos hx, if_pos hx, List.getElem?_set, if_neg (by omega)]
    · rw [if_neg hx, if_neg hx]
/-- What a call may turn: the blocks of 'ok'. -/
structure Turn (ok : Nat → Prop) (w w' : World) : Prop where
  os : w'.os = w.os
  tape : w'.tape = w.tape
  output : w'.output = w.output
  size : w.heap.size ≤ w'.heap.size
  block : ∀ b, b < w.heap.size → ¬ ok b → w'.heap[b]? = w.heap[b]?
theorem Box3.turn {ok : Nat → Prop} {w w' : World} {b : Nat} {v0 v1 v2 : Value} (h : Box3 w b v0 v1 v2) (ht : Turn ok w w') (hn : ¬ ok b) : Box3 w' b v0 v1 v2 := (ht.block b (heap_lt h) hn).trans h
theorem Bys.turn {ok ok' : Nat → Prop} {w w' : World} {v : Value} {bs : List UInt8} (h : Bys w ok' v bs) (ht : Turn ok w w') (hn : ∀ b, ok' b → ¬ ok b) : Bys w' ok' v bs := h.loc fun b hb hlt => ht.block b hlt (hn b hb)
theorem Turn.refl (ok : Nat → Prop) (w : World) : Turn ok w w := ⟨rfl, rfl, rfl, Nat.le_refl _, fun _ _ _ => rfl⟩
theorem Turn.trans {ok : Nat → Prop} {a b c : World} (h : Turn ok a b) (k : Turn (fun x => ok x ∨ a.heap.size ≤ x) b c) : Turn ok a c :=
  ⟨k.os.trans h.os, k.tape.trans h.tape, k.output.trans h.output, Nat.le_trans h.size k.size, fun x hx hn => (k.block x (Nat.lt_of_lt_of_le hx h.size) (fun e => e.elim hn (fun e => by omega))).trans (h.block x hx hn)⟩
theorem Turn.mono {ok ok' : Nat → Prop} {w w' : World} (h : Turn ok w w') (hm : ∀ b, ok b → ok' b) : Turn ok' w w' := ⟨h.os, h.tape, h.output, h.size, fun b hb hn => h.block b hb fun e => hn (hm b e)⟩
theorem Turn.of_below {ok : Nat → Prop} {w w' : World} (h : Below w.heap.size w w') : Turn ok w w' := ⟨h.os, h.tape, h.output, h.size, fun b hb _ => h.block b hb⟩
theorem Turn.of_grown {ok : Nat → Prop} {w w' : World} {row : Option Nat} (h : w.grownBy w' row) (hr : ∀ k, row = some k → ok k ∨ w.heap.size ≤ k) : Turn ok w w' :=
  ⟨h.os, h.tape, h.output, h.size, fun b hb hn => h.block b hb fun e => (hr b e.symm).elim hn (fun e => by omega)⟩
theorem Turn.setCell {ok : Nat → Prop} (w : World) (a : Addr) (v : Value) (h : ok a.block) : Turn ok w (w.setCell a v) :=
  ⟨rfl, rfl, rfl, by simp [World.setCell], fun b hb hn => Below.heap_setCell _ _ _ _ (fun e => hn (e ▸ h))⟩
theorem Turn.below {ok : Nat → Prop} {w w' : World} {B : Nat} (h : Turn ok w w') (hB : ∀ b, b < B → ¬ ok b) (hs : B ≤ w.heap.size) : Below B w w' :=
  ⟨h.os, h.tape, h.output, h.size, fun b hb => h.block b (by omega) (hB b hb)⟩
end Go.Proofs.Ytdgcmihnbkamgaa
