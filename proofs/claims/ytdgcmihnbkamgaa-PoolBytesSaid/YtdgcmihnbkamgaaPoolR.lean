/- PoolBytes: a family of things that lie in blocks of their own, none in another's. No condition. -/
import Derived.Test.YtdgcmihnbkamgaaPoolP
namespace Go.Proofs.Ytdgcmihnbkamgaa
open Go.RowKit
set_option linter.unusedVariables false
set_option linter.unusedSimpArgs false
inductive All2 {α β : Type} (R : α → β → Prop) : List α → List β → Prop where
  | nil : All2 R [] []
  | cons {a : α} {b : β} {l : List α} {m : List β} : R a b → All2 R l m → All2 R (a :: l) (b :: m)
/-- A thing in memory: what is said of it hangs on its own blocks alone. -/
structure Item where
  P : World → (Nat → Prop) → Prop
  loc : ∀ {w w' : World} {ok : Nat → Prop}, P w ok → (∀ b, ok b → b < w.heap.size → w'.heap[b]? = w.heap[b]?) → P w' ok
  bd : ∀ {w : World} {ok : Nat → Prop}, P w ok → P w (fun b => ok b ∧ b < w.heap.size)
def Fam (w : World) (ex : Nat → Prop) (l : List Item) : Prop :=
  ∃ oks : List (Nat → Prop), All2 (fun (i : Item) ok => i.P w ok) l oks ∧ oks.Pairwise (fun p q => ∀ b, p b → ¬ q b) ∧ (∀ ok, ok ∈ oks → ∀ b, ok b → ¬ ex b ∧ b < w.heap.size) ∧ ∀ b, ex b → b < w.heap.size
theorem forall2_mono {α β : Type} {R S : α → β → Prop} {l : List α} {m : List β} (h : All2 R l m) (hm : ∀ a b, a ∈ l → b ∈ m → R a b → S a b) : All2 S l m := by
  induction h with
  | nil => exact .nil
  | cons h1 _ ih => exact .cons (hm _ _ (by simp) (by simp) h1) (ih fun a b ha hb => hm a b (by simp [ha]) (by simp [hb]))
theorem Fam.nil {w : World} {ex : Nat → Prop} (h : ∀ b, ex b → b < w.heap.size) : Fam w ex [] := ⟨[], .nil, .nil, (fun ok h => by cases h), h⟩
theorem Fam.below {w w' : World} {ex : Nat → Prop} {l : List Item} (h : Fam w ex l) (hb : Below w.heap.size w w') : Fam w' ex l := by
  obtain ⟨oks, h1, h2, h3, h4⟩ := h
  have hs := hb.size
  exact ⟨oks, forall2_mono h1 fun i ok _ _ h => i.loc h fun b _ hlt => hb.block b hlt, h2, fun ok ho b hb' => ⟨(h3 ok ho b hb').1, by have := (h3 ok ho b hb').2; omega⟩, fun b hb' => by have := h4 b hb'; omega⟩
theorem Fam.less {w : World} {ex ex' : Nat → Prop} {l : List Item} (h : Fam w ex l) (hm : ∀ b, ex' b → ex b) : Fam w ex' l := by
  obtain ⟨oks, h1, h2, h3, h4⟩ := h
  exact ⟨oks, h1, h2, fun ok ho b hb => ⟨fun e => (h3 ok ho b hb).1 (hm b e), (h3 ok ho b hb).2⟩, fun b hb => h4 b (hm b hb)⟩
/-- New blocks are none of theirs. -/
theorem Fam.fence {w w' : World} {ex : Nat → Prop} {l : List Item} (h : Fam w ex l) (hb : Below w.heap.size w w') : Fam w' (fun b => ex b ∨ (w.heap.size ≤ b ∧ b < w'.heap.size)) l := by
  obtain ⟨oks, h1, h2, h3, h4⟩ := h
  have hs := hb.size
  refine ⟨oks, forall2_mono h1 fun i ok _ _ h => i.loc h fun b _ hlt => hb.block b hlt, h2, fun ok ho b hb' => ⟨fun e => ?_, by have := (h3 ok ho b hb').2; omega⟩, fun b hb' => ?_⟩
  · rcases e with e | e
    · exact (h3 ok ho b hb').1 e
    · have := (h3 ok ho b hb').2; omega
  · rcases hb' with e | e
    · have := h4 b e; omega
    · omega
/-- One more, in new blocks. -/
theorem Fam.add {w w' : World} {ex : Nat → Prop} {l : List Item} (h : Fam w ex l) (hb : Below w.heap.size w w') (i : Item) (hi : i.P w' (fun b => w.heap.size ≤ b)) : Fam w' ex (i :: l) := by
  obtain ⟨oks, h1, h2, h3, h4⟩ := h.below hb
  obtain ⟨oks0, k1, k2, k3, k4⟩ := h
  have hs := hb.size
  refine ⟨(fun b => w.heap.size ≤ b ∧ b < w'.heap.size) :: oks0, .cons (i.bd hi) (forall2_mono k1 fun i ok _ _ h => i.loc h fun b _ hlt => hb.block b hlt), .cons (fun q hq b hb' hqb => ?_) k2, fun ok ho b hb' => ?_, h4⟩
  · have := (k3 q hq b hqb).2; omega
  · rcases List.mem_cons.1 ho with e | ho
    · subst e
      exact ⟨fun e => by have := k4 b e; omega, hb'.2⟩
    · exact ⟨(k3 ok ho b hb').1, by have := (k3 ok ho b hb').2; omega⟩
theorem Fam.perm {w : World} {ex : Nat → Prop} {l l' : List Item} (h : Fam w ex l) (hp : l.Perm l') : Fam w ex l' := by
  obtain ⟨oks, h1, h2, h3, h4⟩ := h
  suffices hh : ∃ oks', oks.Perm oks' ∧ All2 (fun (i : Item) ok => i.P w ok) l' oks' by
    obtain ⟨oks', hp', h5⟩ := hh
    exact ⟨oks', h5, (hp'.pairwise_iff (fun h b hb hc => h b hc hb)).1 h2, fun ok ho => h3 ok (hp'.mem_iff.2 ho), h4⟩
  clear h2 h3 h4
  induction hp generalizing oks with
  | nil => exact ⟨oks, .refl _, h1⟩
  | cons x _ ih =>
    cases h1 with
    | cons a b =>
      obtain ⟨o, ho, hf⟩ := ih _ b
      exact ⟨_ :: o, ho.cons _, .cons a hf⟩
  | swap x y l =>
    cases h1 with
    | cons a b =>
      cases b with
      | cons c d => exact ⟨_, .swap _ _ _, .cons c (.cons a d)⟩
  | trans _ _ ih1 ih2 =>
    obtain ⟨o, ho, hf⟩ := ih1 _ h1
    obtain ⟨o2, ho2, hf2⟩ := ih2 _ hf
    exact ⟨o2, ho.trans ho2, hf2⟩
/-- The first turns, the others stay. -/
theorem Fam.turn {w : World} {ex : Nat → Prop} {i : Item} {l : List Item} (h : Fam w ex (i :: l)) : ∃ ok : Nat → Prop, i.P w ok ∧ (∀ b, ok b → ¬ ex b ∧ b < w.heap.size) ∧ ∀ (w' : World) (i' : Item), i'.P w' (grow ok w) → Turn ok w w' → Fam w' ex (i' :: l) ∧ Turn (fun b => ¬ ex b) w w' := by
  obtain ⟨oks, h1, h2, h3, h4⟩ := h
  cases h1 with
  | cons a t =>
    rename_i ok oks
    have h2' := List.pairwise_cons.1 h2
    refine ⟨ok, a, h3 ok (by simp), fun w' i' hi' ht => ?_⟩
    have hs := ht.size
    refine ⟨⟨(fun b => grow ok w b ∧ b < w'.heap.size) :: oks, .cons (i'.bd hi') (forall2_mono t fun i q _ hq h => i.loc h fun b hb hlt => ht.block b hlt fun e => h2'.1 q hq b e hb), .cons (fun q hq b hb hqb => ?_) h2'.2, fun q hq b hb => ?_, fun b hb => by have := h4 b hb; omega⟩, ht.mono fun b hb => (h3 ok (by simp) b hb).1⟩
    · rcases hb.1 with e | e
      · exact h2'.1 q hq b e hqb
      · have := (h3 q (by simp [hq]) b hqb).2; omega
    · rcases List.mem_cons.1 hq with e | hq
      · subst e
        refine ⟨fun e => ?_, hb.2⟩
        rcases hb.1 with e' | e'
        · exact (h3 ok (by simp) b e').1 e
        · have := h4 b e; omega
      · exact ⟨(h3 q (by simp [hq]) b hb).1, by have := (h3 q (by simp [hq]) b hb).2; omega⟩
/-- A row as an item. -/
def rowItem (e : TypeId) (sz : Nat) (v : Value) (n : Nat) (cs : List Value) : Item := ⟨fun w ok => RowO w ok e sz v n cs, fun h hk => h.loc hk, fun h => h.bd⟩
/-- A pair of pools as an item. -/
def pairItem (pb rb : Nat) (All : List Md) : Item := ⟨fun w ok => Pair w ok pb rb All, fun h hk => h.loc hk, fun h => h.bd⟩
end Go.Proofs.Ytdgcmihnbkamgaa
