/- The document's pool: its memory, and the walks of Under, Look. Conditions: the pool as its memory text says; the number an int's. -/
import Derived.Test.YtdgcmihnbkamgaaPoolE
namespace Go.Proofs.Ytdgcmihnbkamgaa
open Go.RowKit
set_option linter.unusedVariables false
set_option linter.unusedSimpArgs false
/-- A row of its own whose block is one of 'ok'. -/
def RowO (w : World) (ok : Nat → Prop) (e : TypeId) (sz : Nat) (v : Value) (n : Nat) (cs : List Value) : Prop := w.ownsRow 0 e sz v n cs ∧ ∀ k, v.ownBlock = some k → ok k
theorem RowO.mono {w : World} {ok ok' : Nat → Prop} {e sz n : Nat} {v : Value} {cs : List Value} (h : RowO w ok e sz v n cs) (hm : ∀ b, ok b → ok' b) : RowO w ok' e sz v n cs := ⟨h.1, fun k hk => hm k (h.2 k hk)⟩
theorem RowO.loc {w w' : World} {ok : Nat → Prop} {e sz n : Nat} {v : Value} {cs : List Value} (h : RowO w ok e sz v n cs) (hk : ∀ b, ok b → b < w.heap.size → w'.heap[b]? = w.heap[b]?) : RowO w' ok e sz v n cs := by
  refine ⟨⟨h.1.1, ?_⟩, h.2⟩
  rcases h.1.2 with h1 | ⟨g, c, cur, h1, h2, h3, h4⟩
  · exact .inl h1
  · exact .inr ⟨g, c, cur, h1, h2, (hk g (h.2 g (by rw [h1]; rfl)) (heap_lt h3)).trans h3, h4⟩
theorem RowO.bd {w : World} {ok : Nat → Prop} {e sz n : Nat} {v : Value} {cs : List Value} (h : RowO w ok e sz v n cs) : RowO w (fun b => ok b ∧ b < w.heap.size) e sz v n cs := ⟨h.1, fun k hk => ⟨h.2 k hk, (h.1.lt k hk).2⟩⟩
theorem RowO.shape {w : World} {ok : Nat → Prop} {e sz n : Nat} {v : Value} {cs : List Value} (h : RowO w ok e sz v n cs) : ∃ A c, v = .slice A n c ∧ (∀ a, A = some a → ∃ g, a = ⟨g, 0, none⟩) ∧ (0 < n → ∃ g, A = some ⟨g, 0, none⟩) := by
  rcases h.1.2 with ⟨h1, h2⟩ | ⟨g, c, cur, h1, _⟩
  · subst h2
    exact ⟨none, 0, h1, fun a ha => (by cases ha), fun h => absurd h (by decide)⟩
  · exact ⟨some ⟨g, 0, none⟩, c, h1, fun a ha => ⟨g, (Option.some.inj ha).symm⟩, fun _ => ⟨g, rfl⟩⟩
def mdCells (All : List Md) : List Value := All.flatMap fun m => [.int .i64 m.f, .int .i64 m.t, .string ⟨m.b.toArray⟩, .bool m.s]
theorem mdCells_length (All : List Md) : (mdCells All).length = All.length * 4 := by
  induction All with
  | nil => rfl
  | cons m All ih =>
    have e : mdCells (m :: All) = [.int .i64 m.f, .int .i64 m.t, .string ⟨m.b.toArray⟩, .bool m.s] ++ mdCells All := rfl
    rw [e, List.length_append, ih, List.length_cons]
    simp
    omega
theorem mdCells_snoc (All : List Md) (m : Md) : mdCells (All ++ [m]) = mdCells All ++ [.int .i64 m.f, .int .i64 m.t, .string ⟨m.b.toArray⟩, .bool m.s] := by
  unfold mdCells
  rw [List.flatMap_append]
  rfl
theorem mdCells_at (All : List Md) : ∀ (i : Nat) (m : Md), All[i]? = some m → (mdCells All)[i * 4]? = some (.int .i64 m.f) ∧ (mdCells All)[i * 4 + 1]? = some (.int .i64 m.t) ∧ (mdCells All)[i * 4 + 2]? = some (.string ⟨m.b.toArray⟩) ∧ (mdCells All)[i * 4 + 3]? = some (.bool m.s) := by
  induction All with
  | nil => intro i m h; simp at h
  | cons y All ih =>
    intro i m h
    have e : mdCells (y :: All) = .int .i64 y.f :: .int .i64 y.t :: .string ⟨y.b.toArray⟩ :: .bool y.s :: mdCells All := rfl
    cases i with
    | zero =>
      obtain rfl : y = m := by simpa using h
      rw [e]
      exact ⟨rfl, rfl, rfl, rfl⟩
    | succ i =>
      have h' : All[i]? = some m := by simpa using h
      obtain ⟨h0, h1, h2, h3⟩ := ih i m h'
      rw [e, show (i + 1) * 4 = i * 4 + 4 by omega]
      exact ⟨by simpa using h0, by simpa using h1, by simpa using h2, by simpa using h3⟩
theorem mdCells_set (All : List Md) : ∀ (i : Nat) (m m' : Md), All[i]? = some m → mdCells (All.set i m') = ((((mdCells All).set (i * 4) (.int .i64 m'.f)).set (i * 4 + 1) (.int .i64 m'.t)).set (i * 4 + 2) (.string ⟨m'.b.toArray⟩)).set (i * 4 + 3) (.bool m'.s) := by
  induction All with
  | nil => intro i m m' h; simp at h
  | cons y All ih =>
    intro i m m' h
    have e : ∀ y All, mdCells (y :: All) = .int .i64 y.f :: .int .i64 y.t :: .string ⟨y.b.toArray⟩ :: .bool y.s :: mdCells All := fun _ _ => rfl
    cases i with
    | zero => rw [List.set_cons_zero, e, e]; rfl
    | succ i =>
      have h' : All[i]? = some m := by simpa using h
      rw [List.set_cons_succ, e, e, ih i m m' h', show (i + 1) * 4 = i * 4 + 4 by omega]
      rfl
/-- The document's pool behind the pointer to block rb. -/
def RefAt (w : World) (ok : Nat → Prop) (rb : Nat) (All : List Md) : Prop := ∃ v, w.heap[rb]? = some (.cells #[v] 43 (0, 0)) ∧ ok rb ∧ RowO w (fun b => ok b ∧ b ≠ rb) 55 4 v All.length (mdCells All)
theorem RefAt.mono {w : World} {ok ok' : Nat → Prop} {rb : Nat} {All : List Md} (h : RefAt w ok rb All) (hm : ∀ b, ok b → ok' b) : RefAt w ok' rb All := by
  obtain ⟨v, h1, h2, h3⟩ := h
  exact ⟨v, h1, hm _ h2, h3.mono fun b hb => ⟨hm b hb.1, hb.2⟩⟩
theorem RefAt.loc {w w' : World} {ok : Nat → Prop} {rb : Nat} {All : List Md} (h : RefAt w ok rb All) (hk : ∀ b, ok b → b < w.heap.size → w'.heap[b]? = w.heap[b]?) : RefAt w' ok rb All := by
  obtain ⟨v, h1, h2, h3⟩ := h
  exact ⟨v, (hk _ h2 (heap_lt h1)).trans h1, h2, h3.loc fun b hb => hk b hb.1⟩
theorem RefAt.bd {w : World} {ok : Nat → Prop} {rb : Nat} {All : List Md} (h : RefAt w ok rb All) : RefAt w (fun b => ok b ∧ b < w.heap.size) rb All := by
  obtain ⟨v, h1, h2, h3⟩ := h
  exact ⟨v, h1, ⟨h2, heap_lt h1⟩, h3.bd.mono fun b hb => ⟨⟨hb.1.1, hb.2⟩, hb.1.2⟩⟩
theorem RefAt.below {w w' : World} {ok : Nat → Prop} {rb : Nat} {All : List Md} (h : RefAt w ok rb All) (hb : Below w.heap.size w w') : RefAt w' ok rb All := h.loc fun b _ hlt => hb.block b hlt
theorem RefAt.lt {w : World} {ok : Nat → Prop} {rb : Nat} {All : List Md} (h : RefAt w ok rb All) : rb < w.heap.size := by obtain ⟨v, h1, _⟩ := h; exact heap_lt h1
/-- The struct's one cell. -/
theorem one_bx {w : World} {rb : Nat} {v : Value} (h : w.heap[rb]? = some (.cells #[v] 43 (0, 0))) : w.cell? ⟨rb, 0, none⟩ = some v ∧ w.frozen? ⟨rb, 0, none⟩ = false := ⟨by rw [Lib.cell_of_heap h]; rfl, Lib.frozen_of_heap h _⟩
/-- Message i's cells. -/
theorem row_md {w : World} {ok : Nat → Prop} {g n c : Nat} {All : List Md} (h : RowO w ok 55 4 (.slice (some ⟨g, 0, none⟩) n c) All.length (mdCells All)) {i : Nat} {m : Md} (hm : All[i]? = some m) :
    n = All.length ∧ n ≤ c ∧ (w.cell? ⟨g, i * 4, none⟩ = some (.int .i64 m.f) ∧ w.cell? ⟨g, i * 4 + 1, none⟩ = some (.int .i64 m.t) ∧ w.cell? ⟨g, i * 4 + 2, none⟩ = some (.string ⟨m.b.toArray⟩) ∧ w.cell? ⟨g, i * 4 + 3, none⟩ = some (.bool m.s)) ∧ ∀ j, w.frozen? ⟨g, j, none⟩ = false := by
  have hi : i < All.length := (List.getElem?_eq_some_iff.1 hm).1
  obtain ⟨A, c', he, _⟩ := h.shape
  injection he with h1 h2 h3
  subst h2 h3
  rcases h.1.2 with ⟨hx, _⟩ | ⟨g', c', cur, hx, _, _, hle, _⟩
  · cases hx
  · injection hx with e1 e2 e3
    subst e3
    obtain ⟨a0, a1, a2, a3⟩ := mdCells_at All i m hm
    refine ⟨rfl, hle, ⟨?_, ?_, ?_, ?_⟩, fun j => h.1.frozenAt j⟩
    · rw [h.1.cellAt (i * 4) (by omega)]; exact a0
    · rw [h.1.cellAt (i * 4 + 1) (by omega)]; exact a1
    · rw [h.1.cellAt (i * 4 + 2) (by omega)]; exact a2
    · rw [h.1.cellAt (i * 4 + 3) (by omega)]; exact a3
set_option maxRecDepth 100000 in
set_option maxHeartbeats 1000000 in
/-- 'p.Under(n)'. -/
theorem under_calls (w : World) {ok : Nat → Prop} {rb : Nat} {All : List Md} (k : Int) (hk : int64 k) (h : RefAt w ok rb All) (hn : All.length ≤ 17592186044416) :
    Calls Try.prog 33 #[.pointer (some ⟨rb, 0, none⟩), .int .i64 k] w fun e w' => e = .returned (.bool (under All k).isSome) ∧ w' = w := by
  obtain ⟨v, h1, h2, h3⟩ := h
  obtain ⟨A, c, rfl, hA, hpos⟩ := h3.shape
  obtain ⟨c0, f0⟩ := one_bx h1
  by_cases hlo : k < 1
  · have hu : under All k = none := by unfold under; rw [if_neg (by omega)]
    rw [hu]
    have hd : decide (1 ≤ k) = false := decide_eq_false (by omega)
    clear h1 h3
    go_enter Try.func33, Try.ntmps33
    go_wp2
    go_ret
    exact ⟨rfl, rfl⟩
  · obtain ⟨i, rfl⟩ : ∃ i : Nat, k = (i : Int) + 1 := ⟨(k - 1).toNat, by omega⟩
    have hd : decide (1 ≤ (i : Int) + 1) = true := decide_eq_true (by omega)
    by_cases hi : i < All.length
    · obtain ⟨m, hm⟩ : ∃ m, All[i]? = some m := ⟨_, List.getElem?_eq_getElem hi⟩
      obtain ⟨g, rfl⟩ := hpos (by omega)
      obtain ⟨_, hle, ⟨a0, a1, a2, a3⟩, hf⟩ := row_md h3 hm
      have hu : under All ((i : Int) + 1) = if m.s then none else some m := by
        unfold under
        rw [if_pos (by omega), show ((i : Int) + 1).toNat - 1 = i by omega, hm]
      rw [hu]
      have hd2 : decide ((i : Int) + 1 ≤ (All.length : Int)) = true := decide_eq_true (by omega)
      have hlt : (i : Int) < (All.length : Int) := by omega
      clear h1 h3 hu
      cases hms : m.s
      all_goals
        rw [hms] at a3
        clear hms
        go_enter Try.func33, Try.ntmps33
        go_wp2
        go_ret
        exact ⟨rfl, rfl⟩
    · have hu : under All ((i : Int) + 1) = none := by
        unfold under
        rw [if_pos (by omega), List.getElem?_eq_none (by omega)]
      rw [hu]
      have hd2 : decide ((i : Int) + 1 ≤ (All.length : Int)) = false := decide_eq_false (by omega)
      clear h1 h3
      go_enter Try.func33, Try.ntmps33
      go_wp2
      go_ret
      exact ⟨rfl, rfl⟩
def Box4 (w : World) (b : Nat) (f t : Int) (s : ByteArray) (z : Bool) : Prop := w.heap[b]? = some (.cells #[.int .i64 f, .int .i64 t, .string s, .bool z] 55 (0, 0))
section
variable {w w' : World} {b : Nat} {f t : Int} {s : ByteArray} {z : Bool}
theorem Box4.bx (h : Box4 w b f t s z) : (w.cell? ⟨b, 0, none⟩ = some (.int .i64 f) ∧ w.cell? ⟨b, 1, none⟩ = some (.int .i64 t) ∧ w.cell? ⟨b, 2, none⟩ = some (.string s) ∧ w.cell? ⟨b, 3, none⟩ = some (.bool z)) ∧ w.frozen? ⟨b, 0, none⟩ = false ∧ w.frozen? ⟨b, 1, none⟩ = false ∧ w.frozen? ⟨b, 2, none⟩ = false ∧ w.frozen? ⟨b, 3, none⟩ = false :=
  ⟨⟨by rw [Lib.cell_of_heap h]; rfl, by rw [Lib.cell_of_heap h]; rfl, by rw [Lib.cell_of_heap h]; rfl, by rw [Lib.cell_of_heap h]; rfl⟩, Lib.frozen_of_heap h _, Lib.frozen_of_heap h _, Lib.frozen_of_heap h _, Lib.frozen_of_heap h _⟩
theorem Box4.below (h : Box4 w b f t s z) (hb : Below w.heap.size w w') : Box4 w' b f t s z := (hb.block b (heap_lt h)).trans h
theorem Box4.turn {ok : Nat → Prop} (h : Box4 w b f t s z) (ht : Turn ok w w') (hn : ¬ ok b) : Box4 w' b f t s z := (ht.block b (heap_lt h) hn).trans h
theorem Box4.new (w : World) (f t : Int) (s : ByteArray) (z : Bool) : Box4 (w.alloc (.cells #[.int .i64 f, .int .i64 t, .string s, .bool z] 55)) w.heap.size f t s z := heap_alloc_new w _
end
def strOf (b : List UInt8) : ByteArray := ⟨b.toArray⟩
/-- A message as the document's struct. -/
def mdV (x : Option Md) : Value := .agg #[.int .i64 (x.getD md0).f, .int .i64 (x.getD md0).t, .string ⟨(x.getD md0).b.toArray⟩, .bool false]
set_option maxRecDepth 100000 in
set_option maxHeartbeats 1000000 in
/-- 'p.Look(n)' of the document's pool. -/
theorem rlook_calls (w : World) {ok : Nat → Prop} {rb : Nat} {All : List Md} (k : Int) (hk : int64 k) (h : RefAt w ok rb All) (hn : All.length ≤ 17592186044416) {x : Option Md} (hx : under All k = x) :
    Calls Try.prog 20 #[.pointer (some ⟨rb, 0, none⟩), .int .i64 k] w fun e w' => e = .returned (.tuple #[mdV x, .int .i64 (errOf x)]) ∧ Below w.heap.size w w' := by
  have hal := (Below.refl w.heap.size w).alloc (Nat.le_refl _) (.cells #[.int .i64 0, .int .i64 0, .string ⟨#[]⟩, .bool false] 55)
  have hR := h.below hal
  have hB := Box4.new w 0 0 ⟨#[]⟩ false
  have HR := Lib.hid hR
  have HB := Lib.hid hal
  obtain ⟨v, h1, h2, h3⟩ := hR
  obtain ⟨A, c, rfl, hA, hpos⟩ := h3.shape
  obtain ⟨c0, f0⟩ := one_bx h1
  obtain ⟨⟨b0, b1, b2, b3⟩, f1, f2, f3, f4⟩ := hB.bx
  cases x with
  | none =>
    clear h1 h3 hB h hal
    go_enter Try.func20, Try.ntmps20
    go_wp2_with (go_at_call 33; refine (under_calls _ k hk HR.out hn).mono ?_; rintro e w2 ⟨rfl, rfl⟩; rw [hx]; simp only [Option.isSome_none])
    (try simp only [Exit.inBlock, Exit.then])
    refine bodyPost_ret (by simp [results, Try.results20, go_sem, b0, b1, b2, b3]; try rfl) rfl ?_
    exact ⟨rfl, HB.out⟩
  | some m =>
    obtain ⟨hk1, hk2, hm, hs⟩ := under_some hx
    obtain ⟨i, rfl⟩ : ∃ i : Nat, k = (i : Int) + 1 := ⟨(k - 1).toNat, by omega⟩
    rw [show ((i : Int) + 1).toNat - 1 = i by omega] at hm hk2
    obtain ⟨g, rfl⟩ := hpos (by omega)
    obtain ⟨_, hle, ⟨a0, a1, a2, a3⟩, hf⟩ := row_md h3 hm
    rw [hs] at a3
    have hlt : (i : Int) < (All.length : Int) := by omega
    clear h1 h3 hB h hal
    go_enter Try.func20, Try.ntmps20
    go_wp2_with (go_at_call 33; refine (under_calls _ _ hk HR.out hn).mono ?_; rintro e w2 ⟨rfl, rfl⟩; rw [hx]; simp only [Option.isSome_some])
    obtain ⟨⟨q0, q1, q2, q3⟩, _⟩ := (Box4.new w m.f m.t ⟨m.b.toArray⟩ false).bx
    (try simp only [Exit.inBlock, Exit.then])
    refine bodyPost_ret (by simp [results, Try.results20, go_sem, q0, q1, q2, q3]; try rfl) rfl ?_
    exact ⟨rfl, (Below.refl _ _).alloc (Nat.le_refl _) _⟩
/-- 'xs = append(xs, x)': the new element lies in a block of its own first. -/
theorem row_push (w : World) (t ty e : TypeId) {sz bytes : Nat} {z : Value} {ok : Nat → Prop} {v : Value} {n : Nat} {cs : List Value} (h : RowO w ok e sz v n cs) (new : Array Value) (ht : Try.prog.underlying t = some (.slice e)) (hinfo : (Try.prog.info? e).map (fun i => (i.zero, i.size, i.bytes)) = some (some z, sz, bytes)) (hz : z.cells.size = sz) (hs0 : 0 < sz)
    (hnew : new.size = sz) (h1 : ∀ u ∈ new.toList, u.oneCell' = true) (hl : (n + 1) * bytes ≤ 140737488355328) (hn : n < 9223372036854775807) :
    ∃ v' w', (Builtin.append_ #[t, t] ty #[v, .slice (some ⟨w.heap.size, 0, none⟩) 1 1]).run Try.prog (w.alloc (.cells new e)) = .ok v' w' ∧ RowO w' (grow ok w) e sz v' (n + 1) (cs ++ new.toList) ∧ Turn ok w w' := by
  obtain ⟨i0, hi, hz0, hz1, hz2⟩ := info_parts hinfo
  have hal := h.loc (w' := w.alloc (.cells new e)) fun b _ hlt => Below.heap_alloc _ _ _ hlt
  obtain ⟨v', w', hr, ho, hg, _, hat⟩ := run_append_own_at (P := Try.prog) (w.alloc (.cells new e)) 0 t ty e i0 z sz bytes ht hi hz0 hz1 hz2 hz hs0 v n cs hal.1 ⟨w.heap.size, 0, none⟩ 1 1 new.toList (by simp [hnew])
    (World.news_of_block (heap_alloc_new w _)) h1 (by unfold maxLen; omega) hl (Nat.zero_le _)
  refine ⟨v', w', hr, ⟨ho, fun k hk => ?_⟩, ?_⟩
  · rcases hat with e1 | e1
    · exact .inl (h.2 k (by rw [← e1]; exact hk))
    · rw [e1] at hk
      obtain rfl := Option.some.inj hk
      exact .inr (by simp)
  · refine (Turn.of_below ((Below.refl w.heap.size w).alloc (Nat.le_refl _) _)).trans (Turn.of_grown hg fun k hk => .inl (.inl (h.2 k hk)))
theorem info55 : (Try.prog.info? 55).map (fun i => (i.zero, i.size, i.bytes)) = some (some (.agg #[.int .i64 0, .int .i64 0, .string ⟨#[]⟩, .bool false]), 4, 40) := by kernel_rfl
set_option maxRecDepth 100000 in
set_option maxHeartbeats 1000000 in
/-- 'p.Put(f, t, b)' of the document's pool. -/
theorem rput_calls (w : World) {ok : Nat → Prop} {rb : Nat} {All : List Md} (f t : Int) (b : List UInt8) (h : RefAt w ok rb All) (hn : All.length < 17592186044416 / 8) :
    Calls Try.prog 19 #[.pointer (some ⟨rb, 0, none⟩), .int .i64 f, .int .i64 t, .string ⟨b.toArray⟩] w fun e w' => e = .returned (.int .i64 (All.length + 1)) ∧ RefAt w' (grow ok w) rb (All ++ [⟨f, t, b, false⟩]) ∧ Turn ok w w' := by
  obtain ⟨v, h1, h2, h3⟩ := h
  obtain ⟨v', w', hr, ho, ht⟩ := row_push w 41 41 55 h3 #[.int .i64 f, .int .i64 t, .string ⟨b.toArray⟩, .bool false] Try.underlying41 info55 (by rfl) (by decide) (by rfl) (by intro u hu; simp at hu; rcases hu with rfl | rfl | rfl | rfl <;> rfl) (by omega) (by omega)
  have hlt := heap_lt h1
  have hal := (Below.refl w.heap.size w).alloc (Nat.le_refl _) (.cells #[.int .i64 f, .int .i64 t, .string ⟨b.toArray⟩, .bool false] 55)
  have h1' : w'.heap[rb]? = some (.cells #[v] 43 (0, 0)) := (ht.block rb hlt (fun h => h.2 rfl)).trans h1
  obtain ⟨c0, f0⟩ := one_bx h1
  obtain ⟨d0, e0⟩ := one_bx ((hal.block rb hlt).trans h1)
  obtain ⟨g0, j0⟩ := one_bx h1'
  obtain ⟨A, c, rfl, _⟩ := h3.shape
  obtain ⟨A', c', rfl, _⟩ := ho.shape
  have HR := Lib.hid hr
  have HO := Lib.hid ho
  have HT := Lib.hid ht
  have H1 := Lib.hid h1'
  clear h1 h3 hr ho ht h1' hal
  go_enter Try.func19, Try.ntmps19
  go_wp2_with (at_builtin; (refine wpList_append_run rfl _ _ _ rfl rfl rfl HR.out ?_))
  go_ret
  refine ⟨by simp, ⟨.slice A' (All.length + 1) c', ?_, .inl h2, ?_⟩, ?_⟩
  · have h := H1.out
    simp [World.setCell, Array.getElem?_modify, h]
  · rw [mdCells_snoc, List.length_append]
    have ho := HO.out.loc (w' := w'.setCell ⟨rb, 0, none⟩ (.slice A' (All.length + 1) c')) (fun b hb _ => Below.heap_setCell _ _ _ _ (fun e => by
      rcases hb with hb | hb
      · exact hb.2 e
      · subst e; exact absurd hlt (Nat.not_lt.2 hb)))
    refine ho.mono fun b hb => ?_
    rcases hb with hb | hb
    · exact ⟨.inl hb.1, hb.2⟩
    · exact ⟨.inr hb, fun e => by subst e; exact absurd hlt (Nat.not_lt.2 hb)⟩
  · exact (HT.out.mono (fun b hb => hb.1)).trans (Turn.setCell _ _ _ (.inl h2))
end Go.Proofs.Ytdgcmihnbkamgaa
