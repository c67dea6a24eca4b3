/- The document's pool: the walks of Spend, Copy, Trim, Waiting; same, sameInts. Conditions: the pool as its memory text says; the number an int's. -/
import Derived.Test.YtdgcmihnbkamgaaPoolH
namespace Go.Proofs.Ytdgcmihnbkamgaa
open Go.RowKit
set_option linter.unusedVariables false
set_option linter.unusedSimpArgs false
theorem set_same {α : Type} : ∀ (l : List α) (j : Nat) (v : α), l[j]? = some v → l.set j v = l
  | [], j, v, h => by simp
  | x :: l, 0, v, h => by simp at h; rw [h]; rfl
  | x :: l, j + 1, v, h => by
    simp at h
    rw [List.set_cons_succ, set_same l j v h]
theorem mdCells_spent {All : List Md} {i : Nat} {m : Md} (h : All[i]? = some m) : mdCells (All.set i { m with s := true }) = (mdCells All).set (i * 4 + 3) (.bool true) := by
  obtain ⟨a0, a1, a2, a3⟩ := mdCells_at All i m h
  rw [mdCells_set All i m _ h, set_same _ _ _ a0, set_same _ _ _ a1, set_same _ _ _ a2]
theorem mdCells_cut {All : List Md} {i : Nat} {m : Md} (h : All[i]? = some m) (b : List UInt8) : mdCells (All.set i { m with b := b }) = (mdCells All).set (i * 4 + 2) (.string ⟨b.toArray⟩) := by
  obtain ⟨a0, a1, a2, a3⟩ := mdCells_at All i m h
  rw [mdCells_set All i m _ h, set_same _ _ _ a0, set_same _ _ _ a1]
  refine set_same _ _ _ ?_
  rw [List.getElem?_set, if_neg (by omega)]
  exact a3
/-- A store into the row. -/
theorem RowO.put {w : World} {ok : Nat → Prop} {e : TypeId} {sz n c g : Nat} {cs : List Value} (h : RowO w ok e sz (.slice (some ⟨g, 0, none⟩) n c) n cs) (j : Nat) (u : Value) :
    RowO (w.setCell ⟨g, j, none⟩ u) ok e sz (.slice (some ⟨g, 0, none⟩) n c) n (cs.set j u) ∧ Turn ok w (w.setCell ⟨g, j, none⟩ u) :=
  ⟨⟨(h.1.stored j u).1, h.2⟩, Turn.setCell _ _ _ (h.2 g rfl)⟩
/-- The document's pool with a row that turned. -/
theorem RefAt.row {w w' : World} {ok : Nat → Prop} {rb : Nat} {v : Value} {n : Nat} {All' : List Md} (h1 : w.heap[rb]? = some (.cells #[v] 43 (0, 0))) (h2 : ok rb) (hn : n = All'.length) (h3 : RowO w' (fun b => ok b ∧ b ≠ rb) 55 4 v n (mdCells All')) (ht : Turn (fun b => ok b ∧ b ≠ rb) w w') : RefAt w' ok rb All' := by
  subst hn
  exact ⟨v, (ht.block rb (heap_lt h1) (fun h => h.2 rfl)).trans h1, h2, h3⟩
theorem rlook_none (w : World) {ok : Nat → Prop} {rb : Nat} {All : List Md} (k : Int) (hk : int64 k) (h : RefAt w ok rb All) (hn : All.length ≤ 17592186044416) (hx : under All k = none) :
    Calls Try.prog 20 #[.pointer (some ⟨rb, 0, none⟩), .int .i64 k] w fun e w' => e = .returned (.tuple #[.agg #[.int .i64 0, .int .i64 0, .string ⟨#[]⟩, .bool false], .int .i64 15]) ∧ Below w.heap.size w w' := rlook_calls w k hk h hn hx
theorem rlook_some (w : World) {ok : Nat → Prop} {rb : Nat} {All : List Md} (k : Int) (hk : int64 k) (h : RefAt w ok rb All) (hn : All.length ≤ 17592186044416) {m : Md} (hx : under All k = some m) :
    Calls Try.prog 20 #[.pointer (some ⟨rb, 0, none⟩), .int .i64 k] w fun e w' => e = .returned (.tuple #[.agg #[.int .i64 m.f, .int .i64 m.t, .string ⟨m.b.toArray⟩, .bool false], .int .i64 0]) ∧ Below w.heap.size w w' := rlook_calls w k hk h hn hx
set_option maxRecDepth 100000 in
set_option maxHeartbeats 1000000 in
theorem rspend_none (w : World) {ok : Nat → Prop} {rb : Nat} {All : List Md} (k : Int) (hk : int64 k) (h : RefAt w ok rb All) (hn : All.length ≤ 17592186044416) (hx : under All k = none) :
    Calls Try.prog 23 #[.pointer (some ⟨rb, 0, none⟩), .int .i64 k] w fun e w' => e = .returned (.tuple #[.agg #[.int .i64 0, .int .i64 0, .string ⟨#[]⟩, .bool false], .int .i64 15]) ∧ Below w.heap.size w w' := by
  have hal := (Below.refl w.heap.size w).alloc (Nat.le_refl _) (.cells #[.int .i64 0, .int .i64 0, .string ⟨#[]⟩, .bool false] 55)
  have hB := Box4.new w 0 0 ⟨#[]⟩ false
  have hR := h.below hal
  go_enter Try.func23, Try.ntmps23
  go_wp2_with fail
  generalize w.alloc (.cells #[.int .i64 0, .int .i64 0, .string ⟨#[]⟩, .bool false] 55) = W at *
  refine (rlook_none W k hk hR hn hx).mono ?_
  rintro e w2 ⟨rfl, hb⟩
  have hB := hB.below hb
  have hT := hal.trans (hb.mono hal.size)
  have hal2 := (Below.refl w2.heap.size w2).alloc (Nat.le_refl _) (.cells #[.int .i64 0, .int .i64 0, .string ⟨#[]⟩, .bool false] 55)
  have hB := hB.below hal2
  have HT := Lib.hid (hT.trans (hal2.mono hT.size))
  have hlt := heap_lt hB
  obtain ⟨⟨b0, b1, b2, b3⟩, b4, b5, b6, b7⟩ := hB.bx
  obtain ⟨⟨c0, c1, c2, c3⟩, _⟩ := (Box4.new w2 0 0 ⟨#[]⟩ false).bx
  clear hal hb hT hal2 hR hB
  go_wp2
  (try simp only [Exit.inBlock, Exit.then])
  refine bodyPost_ret (by simp [results, Try.results23, go_sem, b0, b1, b2, b3]; try rfl) rfl ?_
  refine ⟨rfl, ?_⟩
  exact (((HT.out.setCell (Nat.le_refl _) _).setCell (Nat.le_refl _) _).setCell (Nat.le_refl _) _).setCell (Nat.le_refl _) _
set_option maxRecDepth 100000 in
set_option maxHeartbeats 1000000 in
theorem rspend_some (w : World) {ok : Nat → Prop} {rb : Nat} {All : List Md} (k : Int) (hk : int64 k) (h : RefAt w ok rb All) (hn : All.length ≤ 17592186044416) {m : Md} (hx : under All k = some m) :
    Calls Try.prog 23 #[.pointer (some ⟨rb, 0, none⟩), .int .i64 k] w fun e w' => e = .returned (.tuple #[.agg #[.int .i64 m.f, .int .i64 m.t, .string ⟨m.b.toArray⟩, .bool false], .int .i64 0]) ∧ RefAt w' ok rb (All.set (k.toNat - 1) { m with s := true }) ∧ Turn ok w w' := by
  have hal := (Below.refl w.heap.size w).alloc (Nat.le_refl _) (.cells #[.int .i64 0, .int .i64 0, .string ⟨#[]⟩, .bool false] 55)
  have hB := Box4.new w 0 0 ⟨#[]⟩ false
  have hR := h.bd.below hal
  obtain ⟨hk1, hk2, hm, hs⟩ := under_some hx
  obtain ⟨i, rfl⟩ : ∃ i : Nat, k = (i : Int) + 1 := ⟨(k - 1).toNat, by omega⟩
  rw [show ((i : Int) + 1).toNat - 1 = i by omega] at hm hk2 ⊢
  go_enter Try.func23, Try.ntmps23
  go_wp2_with fail
  have hs1 : (w.alloc (.cells #[.int .i64 0, .int .i64 0, .string ⟨#[]⟩, .bool false] 55)).heap.size = w.heap.size + 1 := by simp
  generalize w.alloc (.cells #[.int .i64 0, .int .i64 0, .string ⟨#[]⟩, .bool false] 55) = W at *
  refine (rlook_some W _ hk hR hn hx).mono ?_
  rintro e w2 ⟨rfl, hb⟩
  have hB := hB.below hb
  have hR := hR.below hb
  have hT := hal.trans (hb.mono hal.size)
  have hs2 := hb.size
  have hal2 := (Below.refl w2.heap.size w2).alloc (Nat.le_refl _) (.cells #[.int .i64 m.f, .int .i64 m.t, .string ⟨m.b.toArray⟩, .bool false] 55)
  have hB := hB.below hal2
  have hR := hR.below hal2
  have HT := Lib.hid (hT.trans (hal2.mono hT.size))
  have hC := Box4.new w2 m.f m.t ⟨m.b.toArray⟩ false
  have hs3 : (w2.alloc (.cells #[.int .i64 m.f, .int .i64 m.t, .string ⟨m.b.toArray⟩, .bool false] 55)).heap.size = w2.heap.size + 1 := by simp
  obtain ⟨v, h1, h2, h3⟩ := hR
  obtain ⟨A, c, rfl, hA, hpos⟩ := h3.shape
  obtain ⟨g, rfl⟩ := hpos (by omega)
  obtain ⟨_, hle, ⟨a0, a1, a2, a3⟩, hf⟩ := row_md h3 hm
  have hg := h3.2 g rfl
  have hlt : (i : Int) < (All.length : Int) := by omega
  obtain ⟨c0, f0⟩ := one_bx h1
  obtain ⟨⟨b0, b1, b2, b3⟩, b4, b5, b6, b7⟩ := hB.bx
  obtain ⟨⟨d0, d1, d2, d3⟩, _⟩ := hC.bx
  have hne1 : g ≠ w.heap.size := by omega
  have hne2 : g ≠ w2.heap.size := by omega
  have H1 := Lib.hid h1
  have H3 := Lib.hid h3
  clear hal hb hT hal2 hB hC h1 h3
  go_wp2
  (try simp only [Exit.inBlock, Exit.then])
  refine bodyPost_ret (by simp [results, Try.results23, go_sem, b0, b1, b2, b3, hne1, Ne.symm hne1]; try rfl) rfl ?_
  obtain ⟨hp, ht⟩ := H3.out.put (i * 4 + 3) (.bool true)
  rw [← mdCells_spent hm] at hp
  have hr := RefAt.row H1.out h2 (by simp) hp ht
  refine ⟨rfl, ?_, ?_⟩
  · refine (hr.loc (fun b hb _ => ?_)).mono fun b hb => hb.1
    have hq := hb.2
    exact (((Below.heap_setCell _ _ _ _ (by show b ≠ w.heap.size; omega)).trans (Below.heap_setCell _ _ _ _ (by show b ≠ w.heap.size; omega))).trans (Below.heap_setCell _ _ _ _ (by show b ≠ w.heap.size; omega))).trans (Below.heap_setCell _ _ _ _ (by show b ≠ w.heap.size; omega))
  · refine (((((Turn.of_below (ok := ok) HT.out).trans (ht.mono fun b hb => .inl hb.1.1)).trans (Turn.setCell _ _ _ ?_)).trans (Turn.setCell _ _ _ ?_)).trans (Turn.setCell _ _ _ ?_)).trans (Turn.setCell _ _ _ ?_) <;> exact .inr (Nat.le_refl _)
theorem rspend_calls (w : World) {ok : Nat → Prop} {rb : Nat} {All : List Md} (k : Int) (hk : int64 k) (h : RefAt w ok rb All) (hn : All.length ≤ 17592186044416) {x : Option Md} (hx : under All k = x) :
    Calls Try.prog 23 #[.pointer (some ⟨rb, 0, none⟩), .int .i64 k] w fun e w' => e = .returned (.tuple #[mdV x, .int .i64 (errOf x)]) ∧ RefAt w' ok rb (spentAt All k) ∧ Turn ok w w' := by
  unfold spentAt
  rw [hx]
  cases x with
  | none => exact (rspend_none w k hk h hn hx).mono fun e w' ⟨he, hb⟩ => ⟨he, h.below hb, Turn.of_below hb⟩
  | some m => exact rspend_some w k hk h hn hx
set_option maxRecDepth 100000 in
set_option maxHeartbeats 1000000 in
/-- 'p.Copy(n)'. -/
theorem rcopy_none (w : World) {ok : Nat → Prop} {rb : Nat} {All : List Md} (k : Int) (hk : int64 k) (h : RefAt w ok rb All) (hn : All.length ≤ 17592186044416) (hx : under All k = none) :
    Calls Try.prog 27 #[.pointer (some ⟨rb, 0, none⟩), .int .i64 k] w fun e w' => e = .returned (.tuple #[.int .i64 0, .int .i64 15]) ∧ Below w.heap.size w w' := by
  go_enter Try.func27, Try.ntmps27
  go_wp2_with (go_at_call 20; refine (rlook_none _ k hk h hn hx).mono ?_; rintro e w2 ⟨rfl, hb⟩; have HB := Lib.hid hb; clear hb)
  go_ret2
  exact ⟨rfl, HB.out.alloc HB.out.size _⟩
set_option maxRecDepth 100000 in
set_option maxHeartbeats 1000000 in
theorem rcopy_some (w : World) {ok : Nat → Prop} {rb : Nat} {All : List Md} (k : Int) (hk : int64 k) (h : RefAt w ok rb All) (hn : All.length < 17592186044416 / 8) {m : Md} (hx : under All k = some m) :
    Calls Try.prog 27 #[.pointer (some ⟨rb, 0, none⟩), .int .i64 k] w fun e w' => e = .returned (.tuple #[.int .i64 (All.length + 1), .int .i64 0]) ∧ RefAt w' (grow ok w) rb (All ++ [⟨m.f, m.t, m.b, false⟩]) ∧ Turn ok w w' := by
  have H := Lib.hid h
  clear h
  go_enter Try.func27, Try.ntmps27
  go_wp2_with (first
    | (go_at_call 19; refine (rput_calls _ m.f m.t m.b (H.out.below HA.out) hn).mono ?_; rintro e w3 ⟨rfl, hp, ht⟩; have HP := Lib.hid hp; have HT := Lib.hid ht; clear hp ht)
    | (go_at_call 20; refine (rlook_some _ k hk H.out (by omega) hx).mono ?_; rintro e w2 ⟨rfl, hb⟩; have HB := Lib.hid hb; have HA := Lib.hid (show Below w.heap.size w (w2.alloc (.cells #[.int .i64 m.f, .int .i64 m.t, .string ⟨m.b.toArray⟩, .bool false] 55)) from hb.alloc hb.size _); clear hb))
  go_ret2
  exact ⟨rfl, HP.out.mono fun b hb => hb.imp id fun h => Nat.le_trans HA.out.size h, (Turn.of_below HA.out).trans (HT.out.mono fun b hb => .inl hb)⟩
set_option maxRecDepth 100000 in
set_option maxHeartbeats 1000000 in
/-- 'p.Trim(n, cut)'. -/
theorem rtrim_none (w : World) {ok : Nat → Prop} {rb : Nat} {All : List Md} (k : Int) (hk : int64 k) (cut : Int) (h : RefAt w ok rb All) (hn : All.length ≤ 17592186044416) (hx : under All k = none) :
    Calls Try.prog 28 #[.pointer (some ⟨rb, 0, none⟩), .int .i64 k, .int .i64 cut] w fun e w' => e = .returned (.int .i64 15) ∧ Below w.heap.size w w' := by
  go_enter Try.func28, Try.ntmps28
  go_wp2_with (go_at_call 20; refine (rlook_none _ k hk h hn hx).mono ?_; rintro e w2 ⟨rfl, hb⟩; have HB := Lib.hid hb; clear hb)
  go_ret
  exact ⟨rfl, HB.out.alloc HB.out.size _⟩
set_option maxRecDepth 100000 in
set_option maxHeartbeats 1000000 in
theorem rtrim_arg (w : World) {ok : Nat → Prop} {rb : Nat} {All : List Md} (k : Int) (hk : int64 k) (cut : Int) (hc : cut < 1) (h : RefAt w ok rb All) (hn : All.length ≤ 17592186044416) {m : Md} (hx : under All k = some m) :
    Calls Try.prog 28 #[.pointer (some ⟨rb, 0, none⟩), .int .i64 k, .int .i64 cut] w fun e w' => e = .returned (.int .i64 2) ∧ Below w.heap.size w w' := by
  have hd : decide (cut < 1) = true := decide_eq_true hc
  go_enter Try.func28, Try.ntmps28
  go_wp2_with (go_at_call 20; refine (rlook_some _ k hk h hn hx).mono ?_; rintro e w2 ⟨rfl, hb⟩; have HB := Lib.hid hb; clear hb)
  go_ret
  exact ⟨rfl, HB.out.alloc HB.out.size _⟩
set_option maxRecDepth 100000 in
set_option maxHeartbeats 1000000 in
theorem rtrim_cut (w : World) {ok : Nat → Prop} {rb : Nat} {All : List Md} (k : Int) (hk : int64 k) (cut : Int) (hc : 1 ≤ cut) (hc2 : cut ≤ 9223372036854775807) (h : RefAt w ok rb All) (hn : All.length ≤ 17592186044416) {m : Md} (hx : under All k = some m) (hl : m.b.length ≤ 140737488355328) :
    Calls Try.prog 28 #[.pointer (some ⟨rb, 0, none⟩), .int .i64 k, .int .i64 cut] w fun e w' => e = .returned (.int .i64 0) ∧ RefAt w' ok rb (All.set (k.toNat - 1) { m with b := cutOf m.b cut }) ∧ Turn ok w w' := by
  obtain ⟨hk1, hk2, hm, hs⟩ := under_some hx
  obtain ⟨i, rfl⟩ : ∃ i : Nat, k = (i : Int) + 1 := ⟨(k - 1).toNat, by omega⟩
  rw [show ((i : Int) + 1).toNat - 1 = i by omega] at hm hk2 ⊢
  have hd : decide (cut < 1) = false := decide_eq_false (by omega)
  have H := Lib.hid h
  have hH := h.bd
  clear h
  go_enter Try.func28, Try.ntmps28
  go_wp2_with fail
  refine (rlook_some _ _ hk H.out hn hx).mono ?_
  rintro e w2 ⟨rfl, hb⟩
  have hs2 := hb.size
  have hal := hb.alloc hb.size (.cells #[.int .i64 m.f, .int .i64 m.t, .string ⟨m.b.toArray⟩, .bool false] 55)
  have hR := hH.below hal
  have hC := Box4.new w2 m.f m.t ⟨m.b.toArray⟩ false
  obtain ⟨v, h1, h2, h3⟩ := hR
  obtain ⟨A, c, rfl, hA, hpos⟩ := h3.shape
  obtain ⟨g, rfl⟩ := hpos (by omega)
  obtain ⟨_, hle, ⟨a0, a1, a2, a3⟩, hf⟩ := row_md h3 hm
  have hlt : (i : Int) < (All.length : Int) := by omega
  obtain ⟨c0, f0⟩ := one_bx h1
  obtain ⟨⟨d0, d1, d2, d3⟩, _⟩ := hC.bx
  have H1 := Lib.hid h1
  have H3 := Lib.hid h3
  have HT := Lib.hid hal
  clear hb hC h1 h3 hal hH
  have hg := H3.out.2 g rfl
  have hne1 : rb ≠ g := Ne.symm hg.2
  have hne2 : w2.heap.size ≠ g := by have h := hg.1.2; omega
  have key : ∀ b : List UInt8, RefAt (((w2.alloc (.cells #[.int .i64 m.f, .int .i64 m.t, .string ⟨m.b.toArray⟩, .bool false] 55)).drew).setCell ⟨g, i * 4 + 2, none⟩ (.string ⟨b.toArray⟩)) ok rb (All.set i { m with b := b }) ∧ Turn ok w (((w2.alloc (.cells #[.int .i64 m.f, .int .i64 m.t, .string ⟨m.b.toArray⟩, .bool false] 55)).drew).setCell ⟨g, i * 4 + 2, none⟩ (.string ⟨b.toArray⟩)) := by
    intro b
    obtain ⟨hp, ht⟩ := RowO.put (w := (w2.alloc (.cells #[.int .i64 m.f, .int .i64 m.t, .string ⟨m.b.toArray⟩, .bool false] 55)).drew) H3.out (i * 4 + 2) (.string ⟨b.toArray⟩)
    rw [← mdCells_cut hm] at hp
    have hr := RefAt.row (w := (w2.alloc (.cells #[.int .i64 m.f, .int .i64 m.t, .string ⟨m.b.toArray⟩, .bool false] 55)).drew) H1.out h2 (by simp) hp ht
    exact ⟨hr.mono fun b hb => hb.1, (Turn.of_below (Below.drew HT.out)).trans (ht.mono fun b hb => .inl hb.1.1)⟩
  have hlen : ByteArray.size ⟨m.b.toArray⟩ = m.b.length := by show m.b.toArray.size = _; simp
  rcases Int.lt_trichotomy (m.b.length : Int) cut with hgt | hgt | hgt
  · have HF := Lib.hid (show ∀ s : ByteArray, s = ⟨(cutOf m.b cut).toArray⟩ → RefAt (((w2.alloc (.cells #[.int .i64 m.f, .int .i64 m.t, .string ⟨m.b.toArray⟩, .bool false] 55)).drew).setCell ⟨g, i * 4 + 2, none⟩ (.string s)) ok rb (All.set i { m with b := cutOf m.b cut }) ∧ Turn ok w (((w2.alloc (.cells #[.int .i64 m.f, .int .i64 m.t, .string ⟨m.b.toArray⟩, .bool false] 55)).drew).setCell ⟨g, i * 4 + 2, none⟩ (.string s)) from fun s hs => by rw [hs]; exact key (cutOf m.b cut))
    have e0 := (World.cell?_setCell_far ((w2.alloc (.cells #[.int .i64 m.f, .int .i64 m.t, .string ⟨m.b.toArray⟩, .bool false] 55)).drew) ⟨g, i * 4 + 2, none⟩ ⟨rb, 0, none⟩ (.string ⟨(cutOf m.b cut).toArray⟩) (Ne.symm hne1)).trans c0
    have e2 := (World.cell?_setCell_far ((w2.alloc (.cells #[.int .i64 m.f, .int .i64 m.t, .string ⟨m.b.toArray⟩, .bool false] 55)).drew) ⟨g, i * 4 + 2, none⟩ ⟨w2.heap.size, 2, none⟩ (.string ⟨(cutOf m.b cut).toArray⟩) (Ne.symm hne2)).trans d2
    have hcut : cutOf m.b cut = [] := by unfold cutOf; rw [show m.b.length - cut.toNat = 0 by omega]; rfl
    have hst : ByteArray.empty = ⟨(cutOf m.b cut).toArray⟩ := by rw [hcut]; rfl
    rw [← hst] at e0 e2
    have HST := Lib.hid hst
    have hw0 : IntKind.i64.wrap 0 = 0 := by decide
    have hwi : IntKind.i64.wrap (i : Int) = (i : Int) := by rw [IntKind.wrap_i64]; omega
    have hi0 : (0 : Int) ≤ (i : Int) := by omega
    clear key hcut H1 H3 hst
    go_wp2
    go_region_held3 (fun w' => w'.cell? ⟨rb, 0, none⟩ = some (.slice (some ⟨g, 0, none⟩) All.length c) ∧ w'.cell? ⟨w2.heap.size, 2, none⟩ = some (.string ⟨m.b.toArray⟩))
      (first | exact ⟨e0, e2⟩ | exact ⟨c0, d2⟩) (fail)
    go_wp2
    go_ret
    exact ⟨rfl, (HF.out _ HST.out).1, (HF.out _ HST.out).2⟩
  · subst hgt
    have HF := Lib.hid (show ∀ s : ByteArray, s = ⟨(cutOf m.b (m.b.length : Int)).toArray⟩ → RefAt (((w2.alloc (.cells #[.int .i64 m.f, .int .i64 m.t, .string ⟨m.b.toArray⟩, .bool false] 55)).drew).setCell ⟨g, i * 4 + 2, none⟩ (.string s)) ok rb (All.set i { m with b := cutOf m.b (m.b.length : Int) }) ∧ Turn ok w (((w2.alloc (.cells #[.int .i64 m.f, .int .i64 m.t, .string ⟨m.b.toArray⟩, .bool false] 55)).drew).setCell ⟨g, i * 4 + 2, none⟩ (.string s)) from fun s hs => by rw [hs]; exact key (cutOf m.b (m.b.length : Int)))
    have e0 := (World.cell?_setCell_far ((w2.alloc (.cells #[.int .i64 m.f, .int .i64 m.t, .string ⟨m.b.toArray⟩, .bool false] 55)).drew) ⟨g, i * 4 + 2, none⟩ ⟨rb, 0, none⟩ (.string ⟨(cutOf m.b (m.b.length : Int)).toArray⟩) (Ne.symm hne1)).trans c0
    have e2 := (World.cell?_setCell_far ((w2.alloc (.cells #[.int .i64 m.f, .int .i64 m.t, .string ⟨m.b.toArray⟩, .bool false] 55)).drew) ⟨g, i * 4 + 2, none⟩ ⟨w2.heap.size, 2, none⟩ (.string ⟨(cutOf m.b (m.b.length : Int)).toArray⟩) (Ne.symm hne2)).trans d2
    have hcut : cutOf m.b (m.b.length : Int) = [] := by unfold cutOf; rw [show m.b.length - ((m.b.length : Int)).toNat = 0 by omega]; rfl
    have hst : ByteArray.empty = ⟨(cutOf m.b (m.b.length : Int)).toArray⟩ := by rw [hcut]; rfl
    rw [← hst] at e0 e2
    have HST := Lib.hid hst
    have hw0 : IntKind.i64.wrap 0 = 0 := by decide
    have hwi : IntKind.i64.wrap (i : Int) = (i : Int) := by rw [IntKind.wrap_i64]; omega
    have hi0 : (0 : Int) ≤ (i : Int) := by omega
    clear key hcut H1 H3 hst
    go_wp2
    go_region_held3 (fun w' => w'.cell? ⟨rb, 0, none⟩ = some (.slice (some ⟨g, 0, none⟩) All.length c) ∧ w'.cell? ⟨w2.heap.size, 2, none⟩ = some (.string ⟨m.b.toArray⟩))
      (first | exact ⟨e0, e2⟩ | exact ⟨c0, d2⟩) (fail)
    go_wp2
    go_ret
    exact ⟨rfl, (HF.out _ HST.out).1, (HF.out _ HST.out).2⟩
  · have hL : (cutOf m.b cut) = m.b.take ((m.b.length : Int) - cut).toNat := by unfold cutOf; rw [show m.b.length - cut.toNat = ((m.b.length : Int) - cut).toNat by omega]
    have HF := Lib.hid (show ∀ s : ByteArray, s = ⟨(cutOf m.b cut).toArray⟩ → RefAt (((w2.alloc (.cells #[.int .i64 m.f, .int .i64 m.t, .string ⟨m.b.toArray⟩, .bool false] 55)).drew).setCell ⟨g, i * 4 + 2, none⟩ (.string s)) ok rb (All.set i { m with b := cutOf m.b cut }) ∧ Turn ok w (((w2.alloc (.cells #[.int .i64 m.f, .int .i64 m.t, .string ⟨m.b.toArray⟩, .bool false] 55)).drew).setCell ⟨g, i * 4 + 2, none⟩ (.string s)) from fun s hs => by rw [hs]; exact key (cutOf m.b cut))
    have e0 := (World.cell?_setCell_far ((w2.alloc (.cells #[.int .i64 m.f, .int .i64 m.t, .string ⟨m.b.toArray⟩, .bool false] 55)).drew) ⟨g, i * 4 + 2, none⟩ ⟨rb, 0, none⟩ (.string ⟨(cutOf m.b cut).toArray⟩) (Ne.symm hne1)).trans c0
    have e2 := (World.cell?_setCell_far ((w2.alloc (.cells #[.int .i64 m.f, .int .i64 m.t, .string ⟨m.b.toArray⟩, .bool false] 55)).drew) ⟨g, i * 4 + 2, none⟩ ⟨w2.heap.size, 2, none⟩ (.string ⟨(cutOf m.b cut).toArray⟩) (Ne.symm hne2)).trans d2
    have hw : IntKind.i64.wrap ((m.b.length : Int) - cut) = (m.b.length : Int) - cut := by rw [IntKind.wrap_i64]; omega
    have z5 : cut ≤ (m.b.length : Int) ∧ (m.b.length : Int) - cut ≤ (m.b.length : Int) := by omega
    have hst : (⟨m.b.toArray⟩ : ByteArray).extract 0 ((m.b.length : Int) - cut).toNat = ⟨(cutOf m.b cut).toArray⟩ := by rw [ByteArray.extract_mk, hL]; simp
    rw [← hst] at e0 e2
    have HST := Lib.hid hst
    have hn1 : (if (m.b.length : Int) < cut then (m.b.length : Int) else cut) = cut := if_neg (by omega)
    have hn2 : (if 0 < (m.b.length : Int) - cut then (m.b.length : Int) - cut else 0) = (m.b.length : Int) - cut := if_pos (by omega)
    have hwi : IntKind.i64.wrap (i : Int) = (i : Int) := by rw [IntKind.wrap_i64]; omega
    have hi0 : (0 : Int) ≤ (i : Int) := by omega
    clear key hL H1 H3 hst
    go_wp2
    go_region_held3 (fun w' => w'.cell? ⟨rb, 0, none⟩ = some (.slice (some ⟨g, 0, none⟩) All.length c) ∧ w'.cell? ⟨w2.heap.size, 2, none⟩ = some (.string ⟨m.b.toArray⟩))
      (first | exact ⟨e0, e2⟩ | exact ⟨c0, d2⟩) (fail)
    go_wp2
    go_ret
    exact ⟨rfl, (HF.out _ HST.out).1, (HF.out _ HST.out).2⟩
end Go.Proofs.Ytdgcmihnbkamgaa
