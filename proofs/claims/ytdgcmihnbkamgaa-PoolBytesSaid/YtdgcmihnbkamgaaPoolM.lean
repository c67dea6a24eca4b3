/- PoolAnswers: the walk of the statement: two pools and the document's two answer alike. Conditions: the script as its memory says; at most 2^40 steps. -/
import Derived.Test.YtdgcmihnbkamgaaPoolL
namespace Go.Proofs.Ytdgcmihnbkamgaa
open Go.RowKit
set_option linter.unusedVariables false
set_option linter.unusedSimpArgs false
theorem trimAt_length (All : List Md) (k c : Int) : (trimAt All k c).length = All.length := by
  unfold trimAt
  split
  · split <;> simp
  · rfl
theorem playStep_length (All : List Md) (k n x y : Int) (b : List UInt8) : (playStep All k n x y b).length ≤ All.length + 1 := by
  unfold playStep
  split
  · simp
  split
  · rw [spentAt_length]; omega
  split
  · split
    · simp
    · omega
  split
  · rw [trimAt_length]; omega
  · omega
theorem Bnd.trim {All : List Md} (h : Bnd All) (k c : Int) : Bnd (trimAt All k c) := by
  unfold trimAt
  split
  · rename_i m hm
    split
    · exact h
    · exact h.set (m := { m with b := cutOf m.b c }) (Nat.le_trans (cutOf_le _ _) (h m (under_mem hm))) _
  · exact h
theorem Bnd.play {All : List Md} (h : Bnd All) (k n x y : Int) {b : List UInt8} (hb : b.length ≤ 140737488355328) : Bnd (playStep All k n x y b) := by
  unfold playStep
  split
  · exact h.snoc (m := ⟨x, y, b, false⟩) hb
  split
  · exact h.spent n
  split
  · split
    · rename_i m hm
      exact h.snoc (m := ⟨m.f, m.t, m.b, false⟩) (h m (under_mem hm))
    · exact h
  split
  · exact h.trim n x
  · exact h
/-- Two pairs of pools, none in the other's blocks nor in those of 'ex'. -/
def Two (w : World) (ex : Nat → Prop) (pb rb : Nat) (A1 : List Md) (qb sb : Nat) (A2 : List Md) : Prop :=
  ∃ ok1 ok2 : Nat → Prop, Pair w ok1 pb rb A1 ∧ Pair w ok2 qb sb A2 ∧ (∀ b, ok1 b → ok2 b → False) ∧ (∀ b, ok1 b → ¬ ex b ∧ b < w.heap.size) ∧ (∀ b, ok2 b → ¬ ex b ∧ b < w.heap.size) ∧ Bnd A1 ∧ Bnd A2 ∧ ∀ b, ex b → b < w.heap.size
theorem Two.swap {w : World} {ex : Nat → Prop} {pb rb qb sb : Nat} {A1 A2 : List Md} (h : Two w ex pb rb A1 qb sb A2) : Two w ex qb sb A2 pb rb A1 := by
  obtain ⟨ok1, ok2, h1, h2, h3, h4, h5, h6, h7, h8⟩ := h
  exact ⟨ok2, ok1, h2, h1, fun b x y => h3 b y x, h5, h4, h7, h6, h8⟩
theorem Two.alloc {w : World} {ex : Nat → Prop} {pb rb qb sb : Nat} {A1 A2 : List Md} (h : Two w ex pb rb A1 qb sb A2) (o : Obj) : Two (w.alloc o) (fun b => ex b ∨ b = w.heap.size) pb rb A1 qb sb A2 := by
  obtain ⟨ok1, ok2, h1, h2, h3, h4, h5, h6, h7, h8⟩ := h
  have hal := (Below.refl w.heap.size w).alloc (Nat.le_refl _) o
  have hs : (w.alloc o).heap.size = w.heap.size + 1 := by simp
  refine ⟨ok1, ok2, h1.below hal, h2.below hal, h3, fun b hb => ?_, fun b hb => ?_, h6, h7, fun b hb => ?_⟩
  · have := h4 b hb
    exact ⟨fun e => e.elim this.1 fun e => by omega, by omega⟩
  · have := h5 b hb
    exact ⟨fun e => e.elim this.1 fun e => by omega, by omega⟩
  · rcases hb with hb | hb
    · have := h8 b hb; omega
    · omega
theorem Two.len {w : World} {ex : Nat → Prop} {pb rb qb sb : Nat} {A1 A2 : List Md} (h : Two w ex pb rb A1 qb sb A2) : ∃ A c, w.cell? ⟨rb, 0, none⟩ = some (.slice A A1.length c) := by
  obtain ⟨ok1, ok2, h1, _⟩ := h
  obtain ⟨_, okr, _, ⟨v, h1, _, h3⟩, _⟩ := h1
  obtain ⟨A, c, rfl, _⟩ := h3.shape
  exact ⟨A, c, (one_bx h1).1⟩
theorem two_plays (w : World) {ex : Nat → Prop} {pb rb qb sb : Nat} {A1 A2 : List Md} (h : Two w ex pb rb A1 qb sb A2) (k : Int) (s : Bool) (n x y : Int) (hnn : int64 n) (hxx : int64 x) {v : Value} {b : List UInt8} (hv : Bys w ex v b) (hl : b.length ≤ 140737488355328) (hn : A1.length < 2199023255552) :
    Calls Try.prog 15 #[.pointer (some ⟨pb, 0, none⟩), .pointer (some ⟨rb, 0, none⟩), .agg #[.int .i64 k, .bool s, .int .i64 n, .int .i64 x, .int .i64 y, v]] w fun e w' => e = .returned (.bool true) ∧ Two w' ex pb rb (playStep A1 k n x y b) qb sb A2 ∧ Turn (fun b => ¬ ex b) w w' := by
  obtain ⟨ok1, ok2, h1, h2, h3, h4, h5, h6, h7, h8⟩ := h
  refine (plays_calls w h1 k s n x y hnn hxx hv (fun b hb h => (h4 b h).1 hb) hl hn h6).mono ?_
  rintro e w' ⟨rfl, hp, ht⟩
  have hs := ht.size
  refine ⟨rfl, ⟨_, ok2, hp.bd, h2.loc fun b hb hlt => ht.block b hlt (fun h => h3 b h hb), fun b h h' => ?_, fun b h => ⟨fun e => ?_, h.2⟩, fun b h => ⟨(h5 b h).1, by have := (h5 b h).2; omega⟩, h6.play k n x y hl, h7, fun b hb => by have := h8 b hb; omega⟩, ht.mono fun b hb => (h4 b hb).1⟩
  · rcases h.1 with h9 | h9
    · exact h3 b h9 h'
    · have := (h5 b h').2; omega
  · rcases h.1 with h9 | h9
    · exact (h4 b h9).1 e
    · have := h8 b e; omega
theorem Turn.exBelow {w0 w w' : World} {ex : Nat → Prop} (h : Turn (fun b => ¬ ex b) w w') (hex : ∀ b, b < w0.heap.size → ex b) (hb : Below w0.heap.size w0 w) : Below w0.heap.size w0 w' := hb.trans (h.below (fun b hb h => h (hex b hb)) hb.size)
theorem Two.init {w w2 w3 : World} {pb qb : Nat} (hb : w.heap.size ≤ w2.heap.size) (hp : PoolAt w2 (fun b => w.heap.size ≤ b) pb []) (hq : PoolAt w3 (fun b => w2.heap.size ≤ b) qb []) (hb3 : Below w2.heap.size w2 w3) :
    Two ((w3.alloc (.cells #[.slice none 0 0] 43)).alloc (.cells #[.slice none 0 0] 43)) (fun b => b < w.heap.size) pb w3.heap.size [] qb (w3.heap.size + 1) [] := by
  have hs3 := hb3.size
  have a1 := (Below.refl w3.heap.size w3).alloc (Nat.le_refl _) (.cells #[.slice none 0 0] 43)
  have a2 := (Below.refl (w3.alloc (.cells #[.slice none 0 0] 43)).heap.size (w3.alloc (.cells #[.slice none 0 0] 43))).alloc (Nat.le_refl _) (.cells #[.slice none 0 0] 43)
  have s1 : (w3.alloc (.cells #[.slice none 0 0] 43)).heap.size = w3.heap.size + 1 := by simp
  have s2 : ((w3.alloc (.cells #[.slice none 0 0] 43)).alloc (.cells #[.slice none 0 0] 43)).heap.size = w3.heap.size + 2 := by simp
  have hE : ∀ (w : World) (ok : Nat → Prop) (rb : Nat), w.heap[rb]? = some (.cells #[.slice none 0 0] 43 (0, 0)) → ok rb → RefAt w ok rb [] := fun w ok rb h1 h2 => ⟨_, h1, h2, ⟨by simp [mdCells], .inl ⟨rfl, rfl⟩⟩, (fun k hk => by cases hk)⟩
  have n1 := heap_alloc_new w3 (.cells #[.slice none 0 0] 43)
  have n1' := (a2.block _ (heap_lt n1)).trans n1
  have n2 := heap_alloc_new (w3.alloc (.cells #[.slice none 0 0] 43)) (.cells #[.slice none 0 0] 43)
  rw [s1] at n2
  have hp' := ((hp.bd.below hb3).below a1).below a2
  have hq' := (hq.bd.below a1).below a2
  refine ⟨fun b => (w.heap.size ≤ b ∧ b < w2.heap.size) ∨ b = w3.heap.size, fun b => (w2.heap.size ≤ b ∧ b < w3.heap.size) ∨ b = w3.heap.size + 1, ⟨_, fun b => b = w3.heap.size, hp', hE _ _ _ n1' rfl, ?_, fun b h => .inl h, fun b h => .inr h⟩, ⟨_, fun b => b = w3.heap.size + 1, hq', hE _ _ _ n2 rfl, ?_, fun b h => .inl h, fun b h => .inr h⟩, ?_, ?_, ?_, (fun m hm => by cases hm), (fun m hm => by cases hm), ?_⟩
  all_goals (intros; omega)
end Go.Proofs.Ytdgcmihnbkamgaa
