/- PoolOnce: plain laws: what the statement's two rows say of the pool's messages. No condition. -/
import Derived.Test.YtdgcmihnbkamgaaPoolO
namespace Go.Proofs.Ytdgcmihnbkamgaa
open Go.RowKit
set_option linter.unusedVariables false
set_option linter.unusedSimpArgs false
def Keep (All : List Md) (FS : List (List UInt8)) (SP : List Bool) : Prop := FS.length = All.length ∧ SP = All.map (·.s) ∧ ∀ (j : Nat) m f, All[j]? = some m → FS[j]? = some f → m.s = false → m.b <+: f
section
variable {All : List Md} {FS : List (List UInt8)} {SP : List Bool}
theorem Keep.len (h : Keep All FS SP) : FS.length = All.length ∧ SP.length = All.length := ⟨h.1, by rw [h.2.1]; simp⟩
theorem Keep.here (h : Keep All FS SP) {n : Int} {m : Md} (hx : under All n = some m) : ∃ (i : Nat) (f : List UInt8), n = (i : Int) + 1 ∧ i < All.length ∧ FS[i]? = some f ∧ m.b <+: f ∧ SP[i]? = some false ∧ All[i]? = some m ∧ m.s = false := by
  obtain ⟨h1, h2, h3, h4⟩ := under_some hx
  have hl : n.toNat - 1 < FS.length := by rw [h.1]; exact h2
  refine ⟨n.toNat - 1, FS[n.toNat - 1], by omega, h2, List.getElem?_eq_getElem hl, h.2.2 _ m _ h3 (List.getElem?_eq_getElem hl) h4, ?_, h3, h4⟩
  rw [h.2.1, List.getElem?_map, h3]
  simp [h4]
theorem Keep.away (h : Keep All FS SP) {n : Int} (hx : under All n = none) : n < 1 ∨ (FS.length : Int) < n ∨ ∃ i : Nat, n = (i : Int) + 1 ∧ i < All.length ∧ SP[i]? = some true := by
  by_cases h1 : n < 1
  · exact .inl h1
  by_cases h2 : (FS.length : Int) < n
  · exact .inr (.inl h2)
  have hl : n.toNat - 1 < All.length := by have := h.1; omega
  refine .inr (.inr ⟨n.toNat - 1, by omega, hl, ?_⟩)
  unfold under at hx
  rw [if_pos (by omega), List.getElem?_eq_getElem hl] at hx
  rw [h.2.1, List.getElem?_map, List.getElem?_eq_getElem hl]
  simp only [Option.map_some]
  congr 1
  by_cases hs : All[n.toNat - 1].s
  · exact hs
  · simp [hs] at hx
theorem Keep.snoc (h : Keep All FS SP) (x y : Int) {b f : List UInt8} (hb : b <+: f) : Keep (All ++ [⟨x, y, b, false⟩]) (FS ++ [f]) (SP ++ [false]) := by
  refine ⟨by simp [h.1], by rw [h.2.1]; simp, fun j m g hm hg hs => ?_⟩
  by_cases hj : j < All.length
  · rw [List.getElem?_append_left hj] at hm
    rw [List.getElem?_append_left (by rw [h.1]; exact hj)] at hg
    exact h.2.2 j m g hm hg hs
  · rw [List.getElem?_append_right (by omega)] at hm
    rw [List.getElem?_append_right (by rw [h.1]; omega)] at hg
    have hz : j - All.length = 0 := by
      rcases Nat.eq_zero_or_pos (j - All.length) with e | e
      · exact e
      · rw [List.getElem?_eq_none (by simp; omega)] at hm; cases hm
    rw [hz] at hm
    rw [h.1, hz] at hg
    simp at hm hg
    subst hm hg
    exact hb
theorem Keep.spend (h : Keep All FS SP) {n : Int} {m : Md} {i : Nat} (hn : n = (i : Int) + 1) (hx : under All n = some m) : Keep (spentAt All n) FS (SP.set i true) := by
  have hi : n.toNat - 1 = i := by omega
  unfold spentAt
  rw [hx]
  simp only
  rw [hi]
  refine ⟨by simp [h.1], by rw [h.2.1, List.map_set], fun j m' f hm hf hs => ?_⟩
  rw [List.getElem?_set] at hm
  split at hm
  · split at hm
    · injection hm with e
      subst e
      simp at hs
    · cases hm
  · exact h.2.2 j m' f hm hf hs
theorem Keep.cut (h : Keep All FS SP) (n c : Int) : Keep (trimAt All n c) FS SP := by
  unfold trimAt
  split
  · rename_i m hm
    split
    · exact h
    · obtain ⟨h1, h2, h3, h4⟩ := under_some hm
      refine ⟨by simp [h.1], ?_, fun j m' f hm' hf hs => ?_⟩
      · rw [h.2.1, List.map_set]
        apply List.ext_getElem?
        intro k
        rw [List.getElem?_set]
        split
        · rename_i e
          subst e
          rw [List.getElem?_map, h3]
          simp only [List.length_map, h2, if_true, Option.map_some]
        · rfl
      · rw [List.getElem?_set] at hm'
        split at hm'
        · rename_i e
          injection hm' with e'
          subst e'
          subst e
          exact (List.take_prefix _ _).trans (h.2.2 _ m f h3 hf h4)
        · exact h.2.2 j m' f hm' hf hs
  · exact h
theorem spentAt_none {n : Int} (hx : under All n = none) : spentAt All n = All := by unfold spentAt; rw [hx]
theorem trimAt_none {n : Int} (c : Int) (hx : under All n = none) : trimAt All n c = All := by unfold trimAt; rw [hx]
end
section
variable {w : World} {ex : Nat → Prop} {pb : Nat} {All : List Md} {v4 v5 : Value} {FS : List (List UInt8)} {SP : List Bool}
theorem Onc.cell4 {A4 : Option Addr} {k c : Nat} (h : Onc w ex pb All (.slice A4 k c) v5 FS SP) {j : Nat} {f : List UInt8} (hj : FS[j]? = some f) : ∃ g, A4 = some ⟨g, 0, none⟩ ∧ w.cell? ⟨g, j, none⟩ = some (.string ⟨f.toArray⟩) := by
  obtain ⟨A, c', A5, c5, e, _, h1, _⟩ := h.shape
  injection e with e1
  subst e1
  exact h1 j f hj
theorem Onc.cell5 {A5 : Option Addr} {k c : Nat} (h : Onc w ex pb All v4 (.slice A5 k c) FS SP) {j : Nat} {s : Bool} (hj : SP[j]? = some s) : ∃ g, A5 = some ⟨g, 0, none⟩ ∧ w.cell? ⟨g, j, none⟩ = some (.bool s) ∧ w.frozen? ⟨g, j, none⟩ = false ∧ ∀ s', Onc (w.setCell ⟨g, j, none⟩ (.bool s')) ex pb All v4 (.slice A5 k c) FS (SP.set j s') ∧ Turn (fun b => ¬ ex b) w (w.setCell ⟨g, j, none⟩ (.bool s')) := by
  obtain ⟨A, c', A5', c5, _, e, _, h1⟩ := h.shape
  injection e with e1 e2 e3
  subst e1 e2 e3
  exact h1 j s hj
theorem once_look (h : Onc w ex pb All v4 v5 FS SP) (k : Int) (hk : int64 k) {x : Option Md} (hu : under All k = x) (hl : (x.getD md0).b.length ≤ 140737488355328) :
    Calls Try.prog 10 #[.pointer (some ⟨pb, 0, none⟩), .int .i64 k] w fun e w' => ∃ A c, e = .returned (.tuple #[.agg #[.int .i64 (x.getD md0).f, .int .i64 (x.getD md0).t, .slice A (x.getD md0).b.length c], .int .i64 (errOf x)]) ∧ Bys w' (fun b => w.heap.size ≤ b ∧ b < w'.heap.size) (.slice A (x.getD md0).b.length c) (x.getD md0).b ∧ Below w.heap.size w w' := by
  obtain ⟨okp, hP, _⟩ := h.pool
  refine (look_calls w k hk hP hu hl).mono ?_
  rintro e w' ⟨A, c, rfl, ho, hb⟩
  exact ⟨A, c, rfl, ho.bys, hb⟩
theorem once_take (h : Onc w ex pb All v4 v5 FS SP) (k : Int) (hk : int64 k) {x : Option Md} (hu : under All k = x) (hl : (x.getD md0).b.length ≤ 140737488355328) :
    Calls Try.prog 16 #[.pointer (some ⟨pb, 0, none⟩), .int .i64 k] w fun e w' => ∃ A c, e = .returned (.tuple #[.agg #[.int .i64 (x.getD md0).f, .int .i64 (x.getD md0).t, .slice A (x.getD md0).b.length c], .int .i64 (errOf x)]) ∧ Bys w' (fun b => w.heap.size ≤ b ∧ b < w'.heap.size) (.slice A (x.getD md0).b.length c) (x.getD md0).b ∧ Onc w' ex pb (spentAt All k) v4 v5 FS SP ∧ Turn (fun b => ¬ ex b) w w' := by
  obtain ⟨okp, hP, _, hs⟩ := h.pool
  refine (take_calls w k hk hP hu hl).mono ?_
  rintro e w' ⟨A, c, rfl, ho, hp, ht⟩
  exact ⟨A, c, rfl, ho.bys, hs w' _ (hp.mono fun b hb => .inl hb) ht⟩
theorem once_drop (h : Onc w ex pb All v4 v5 FS SP) (k : Int) (hk : int64 k) {x : Option Md} (hu : under All k = x) (hl : (x.getD md0).b.length ≤ 140737488355328) :
    Calls Try.prog 14 #[.pointer (some ⟨pb, 0, none⟩), .int .i64 k] w fun e w' => e = .returned (.int .i64 (errOf x)) ∧ Onc w' ex pb (spentAt All k) v4 v5 FS SP ∧ Turn (fun b => ¬ ex b) w w' := by
  obtain ⟨okp, hP, _, hs⟩ := h.pool
  refine (drop_calls w k hk hP hu hl).mono ?_
  rintro e w' ⟨rfl, hp, ht⟩
  exact ⟨rfl, hs w' _ (hp.mono fun b hb => .inl hb) ht⟩
theorem once_trim (h : Onc w ex pb All v4 v5 FS SP) (k : Int) (hk : int64 k) (cut : Int) (hc : int64 cut) {x : Option Md} (hu : under All k = x) (hl : (x.getD md0).b.length ≤ 140737488355328) (hn : All.length < 140737488355328) :
    Calls Try.prog 13 #[.pointer (some ⟨pb, 0, none⟩), .int .i64 k, .int .i64 cut] w fun e w' => e = .returned (.int .i64 (trimErr x cut)) ∧ Onc w' ex pb (trimAt All k cut) v4 v5 FS SP ∧ Turn (fun b => ¬ ex b) w w' := by
  obtain ⟨okp, hP, _, hs⟩ := h.pool
  refine (trim_calls w k hk cut hc hP hu hl hn).mono ?_
  rintro e w' ⟨rfl, hp, ht⟩
  exact ⟨rfl, hs w' _ (hp.mono fun b hb => .inl hb) ht⟩
theorem once_copy (h : Onc w ex pb All v4 v5 FS SP) (k : Int) (hk : int64 k) {m : Md} (hu : under All k = some m) (hl : m.b.length ≤ 140737488355328) (hn : All.length < 140737488355328) :
    Calls Try.prog 12 #[.pointer (some ⟨pb, 0, none⟩), .int .i64 k] w fun e w' => e = .returned (.tuple #[.int .i64 (All.length + 1), .int .i64 0]) ∧ Onc w' ex pb (All ++ [⟨m.f, m.t, m.b, false⟩]) v4 v5 FS SP ∧ Turn (fun b => ¬ ex b) w w' := by
  obtain ⟨okp, hP, _, hs⟩ := h.pool
  refine (copy_some w k hk hP hu hl hn).mono ?_
  rintro e w' ⟨rfl, hp, ht⟩
  exact ⟨rfl, hs w' _ hp ht⟩
theorem once_copy0 (h : Onc w ex pb All v4 v5 FS SP) (k : Int) (hk : int64 k) (hu : under All k = none) :
    Calls Try.prog 12 #[.pointer (some ⟨pb, 0, none⟩), .int .i64 k] w fun e w' => e = .returned (.tuple #[.int .i64 0, .int .i64 15]) ∧ Below w.heap.size w w' := by
  obtain ⟨okp, hP, _⟩ := h.pool
  exact copy_none w k hk hP hu
theorem once_look_some (h : Onc w ex pb All v4 v5 FS SP) (k : Int) (hk : int64 k) {m : Md} (hu : under All k = some m) (hl : m.b.length ≤ 140737488355328) :
    Calls Try.prog 10 #[.pointer (some ⟨pb, 0, none⟩), .int .i64 k] w fun e w' => ∃ A c, e = .returned (.tuple #[.agg #[.int .i64 m.f, .int .i64 m.t, .slice A m.b.length c], .int .i64 0]) ∧ Bys w' (fun b => w.heap.size ≤ b ∧ b < w'.heap.size) (.slice A m.b.length c) m.b ∧ Below w.heap.size w w' := once_look h k hk hu hl
theorem once_look_none (h : Onc w ex pb All v4 v5 FS SP) (k : Int) (hk : int64 k) (hu : under All k = none) :
    Calls Try.prog 10 #[.pointer (some ⟨pb, 0, none⟩), .int .i64 k] w fun e w' => ∃ A c, e = .returned (.tuple #[.agg #[.int .i64 0, .int .i64 0, .slice A 0 c], .int .i64 15]) ∧ Bys w' (fun b => w.heap.size ≤ b ∧ b < w'.heap.size) (.slice A 0 c) [] ∧ Below w.heap.size w w' := once_look h k hk hu (Nat.zero_le _)
theorem once_take_some (h : Onc w ex pb All v4 v5 FS SP) (k : Int) (hk : int64 k) {m : Md} (hu : under All k = some m) (hl : m.b.length ≤ 140737488355328) :
    Calls Try.prog 16 #[.pointer (some ⟨pb, 0, none⟩), .int .i64 k] w fun e w' => ∃ A c, e = .returned (.tuple #[.agg #[.int .i64 m.f, .int .i64 m.t, .slice A m.b.length c], .int .i64 0]) ∧ Bys w' (fun b => w.heap.size ≤ b ∧ b < w'.heap.size) (.slice A m.b.length c) m.b ∧ Onc w' ex pb (spentAt All k) v4 v5 FS SP ∧ Turn (fun b => ¬ ex b) w w' := once_take h k hk hu hl
theorem once_take_none (h : Onc w ex pb All v4 v5 FS SP) (k : Int) (hk : int64 k) (hu : under All k = none) :
    Calls Try.prog 16 #[.pointer (some ⟨pb, 0, none⟩), .int .i64 k] w fun e w' => ∃ A c, e = .returned (.tuple #[.agg #[.int .i64 0, .int .i64 0, .slice A 0 c], .int .i64 15]) ∧ Bys w' (fun b => w.heap.size ≤ b ∧ b < w'.heap.size) (.slice A 0 c) [] ∧ Onc w' ex pb All v4 v5 FS SP ∧ Turn (fun b => ¬ ex b) w w' := by
  have h1 := once_take h k hk hu (Nat.zero_le _)
  rw [spentAt_none hu] at h1
  exact h1
theorem once_drop_some (h : Onc w ex pb All v4 v5 FS SP) (k : Int) (hk : int64 k) {m : Md} (hu : under All k = some m) (hl : m.b.length ≤ 140737488355328) :
    Calls Try.prog 14 #[.pointer (some ⟨pb, 0, none⟩), .int .i64 k] w fun e w' => e = .returned (.int .i64 0) ∧ Onc w' ex pb (spentAt All k) v4 v5 FS SP ∧ Turn (fun b => ¬ ex b) w w' := once_drop h k hk hu hl
theorem once_drop_none (h : Onc w ex pb All v4 v5 FS SP) (k : Int) (hk : int64 k) (hu : under All k = none) :
    Calls Try.prog 14 #[.pointer (some ⟨pb, 0, none⟩), .int .i64 k] w fun e w' => e = .returned (.int .i64 15) ∧ Onc w' ex pb All v4 v5 FS SP ∧ Turn (fun b => ¬ ex b) w w' := by
  have h1 := once_drop h k hk hu (Nat.zero_le _)
  rw [spentAt_none hu] at h1
  exact h1
theorem under_trimmed {n : Int} {m : Md} (c : Int) (hx : under All n = some m) : under (trimAt All n c) n = some { m with b := if c < 1 then m.b else cutOf m.b c } := by
  have hs := (under_some hx).2.2.2
  unfold trimAt
  rw [hx]
  simp only
  split
  · rw [hx]
  · rw [under_set hx, if_pos rfl]
    simp [hs]
theorem once_made (h : Onc w ex pb All v4 v5 FS SP) : Calls Try.prog 11 #[.pointer (some ⟨pb, 0, none⟩)] w fun e w' => e = .returned (.int .i64 All.length) ∧ Below w.heap.size w w' := by
  obtain ⟨okp, hP, _⟩ := h.pool
  exact made_calls w hP
theorem once_put (h : Onc w ex pb All v4 v5 FS SP) (f t : Int) {okb : Nat → Prop} {v : Value} {b : List UInt8} (hv : Bys w okb v b) (hl : b.length ≤ 140737488355328) (hn : All.length < 140737488355328) :
    Calls Try.prog 9 #[.pointer (some ⟨pb, 0, none⟩), .agg #[.int .i64 f, .int .i64 t, v]] w fun e w' => e = .returned (.int .i64 (All.length + 1)) ∧ Onc w' ex pb (All ++ [⟨f, t, b, false⟩]) v4 v5 FS SP ∧ Turn (fun b => ¬ ex b) w w' := by
  obtain ⟨okp, hP, _, hs⟩ := h.pool
  refine (put_calls w f t hP hv hl hn).mono ?_
  rintro e w' ⟨rfl, hp, ht⟩
  exact ⟨rfl, hs w' _ hp ht⟩
theorem once_waiting (h : Onc w ex pb All v4 v5 FS SP) (hn : All.length ≤ 17592186044416) :
    Calls Try.prog 18 #[.pointer (some ⟨pb, 0, none⟩)] w fun e w' => ∃ A c, e = .returned (.slice A (waits All).length c) ∧ (∀ (j : Nat) x, (waits All)[j]? = some x → ∃ g, A = some ⟨g, 0, none⟩ ∧ w'.cell? ⟨g, j, none⟩ = some (.int .i64 x)) ∧ Below w.heap.size w w' := by
  obtain ⟨okp, hP, _⟩ := h.pool
  refine (waiting_calls w hP hn).mono ?_
  rintro e w' ⟨v, rfl, ho, hb⟩
  rcases ho.2 with ⟨rfl, h0⟩ | ⟨g, c, cur, rfl, _⟩
  · rw [h0]
    refine ⟨none, 0, rfl, fun j x hj => ?_, hb⟩
    rw [List.getElem?_eq_none (by omega)] at hj
    cases hj
  · refine ⟨some ⟨g, 0, none⟩, c, rfl, fun j x hj => ⟨g, rfl, ?_⟩, hb⟩
    have := ho.cells (g := g) rfl j (.int .i64 x) (by rw [List.getElem?_map, hj]; rfl)
    rw [add_zero_off] at this
    exact this
theorem under_nth {j : Nat} {m : Md} (hm : All[j]? = some m) : under All ((j : Int) + 1) = if m.s then none else some m := by
  unfold under
  rw [if_pos (by omega), show ((j : Int) + 1).toNat - 1 = j by omega, hm]
theorem waitsTo_pre (All : List Md) (i d : Nat) : waitsTo All i <+: waitsTo All (i + d) := by
  induction d with
  | zero => exact List.prefix_rfl
  | succ d ih =>
    refine ih.trans ?_
    rw [show i + (d + 1) = (i + d) + 1 by omega, waitsTo_succ]
    exact List.prefix_append _ _
theorem waits_at {j : Nat} (hj : j < All.length) (hu : (under All ((j : Int) + 1)).isSome = true) : (waits All)[(waitsTo All j).length]? = some ((j : Int) + 1) := by
  have h1 := waitsTo_pre All (j + 1) (All.length - (j + 1))
  rw [show j + 1 + (All.length - (j + 1)) = All.length by omega, waitsTo_succ, hu] at h1
  obtain ⟨t, ht⟩ := h1
  have e : waits All = waitsTo All All.length := rfl
  rw [e, ← ht]
  simp
end
end Go.Proofs.Ytdgcmihnbkamgaa
