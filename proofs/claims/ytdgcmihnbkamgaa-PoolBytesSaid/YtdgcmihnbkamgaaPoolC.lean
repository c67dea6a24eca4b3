/- The pool's calls Look, Take, Drop, Copy, Trim: walks. Conditions: the pool as its memory text says; the number an int's; bytes at most 2^47; fewer than 2^47 messages. -/
import Derived.Test.YtdgcmihnbkamgaaPoolB
namespace Go.Proofs.Ytdgcmihnbkamgaa
open Go.RowKit
set_option linter.unusedVariables false
set_option linter.unusedSimpArgs false
set_option maxRecDepth 100000 in
set_option maxHeartbeats 1000000 in
/-- 'p.Look(n)': there is none. -/
theorem look_none (w : World) {ok : Nat → Prop} {pb : Nat} {All : List Md} (k : Int) (hk : int64 k) (h : PoolAt w ok pb All) (hu : under All k = none) :
    Calls Try.prog 10 #[.pointer (some ⟨pb, 0, none⟩), .int .i64 k] w fun e w' => e = .returned (.tuple #[letter0, .int .i64 15]) ∧ Below w.heap.size w w' := by
  obtain ⟨mb, F, h1, hok1, hok2, h2, h3⟩ := h
  have hF := h3 k hk
  rw [hu] at hF
  have hF' : F k = none := hF
  have hal := (Below.refl w.heap.size w).alloc (Nat.le_refl _) (.cells #[.int .i64 0, .int .i64 0, .slice none 0 0] 31)
  have hL := (h2.block (hal.block _ h2.lt)).look hk
  rw [hF'] at hL
  simp only [Option.getD_none, Option.isSome_none] at hL
  unfold letter0 at hL
  obtain ⟨⟨c0, c1⟩, f0, f1⟩ := (PB.below h1 hal).bx
  obtain ⟨⟨z0, z1, z2⟩, z3, z4, z5⟩ := (Box3.new w (.int .i64 0) (.int .i64 0) (.slice none 0 0)).bx
  have HB := Lib.hid hal
  clear h1 h2 h3 hF hF' hal
  go_enter Try.func10, Try.ntmps10
  go_wp2
  (try simp only [Exit.inBlock, Exit.then])
  refine bodyPost_ret (by simp [results, Try.results10, go_sem, z0, z1, z2]; try rfl) rfl ?_
  exact ⟨rfl, HB.out.alloc (by simp) _⟩
set_option maxRecDepth 100000 in
set_option maxHeartbeats 1000000 in
/-- 'p.Look(n)': the message, its bytes new. -/
theorem look_some (w : World) {ok : Nat → Prop} {pb : Nat} {All : List Md} (k : Int) (hk : int64 k) (h : PoolAt w ok pb All) {m : Md} (hu : under All k = some m) (hl : m.b.length ≤ 140737488355328) :
    Calls Try.prog 10 #[.pointer (some ⟨pb, 0, none⟩), .int .i64 k] w fun e w' => ∃ A c, e = .returned (.tuple #[.agg #[.int .i64 m.f, .int .i64 m.t, .slice A m.b.length c], .int .i64 0]) ∧ RowB w' w.heap.size (.slice A m.b.length c) m.b ∧ Below w.heap.size w w' := by
  obtain ⟨mb, F, h1, hok1, hok2, h2, h3⟩ := h
  have hF := h3 k hk
  rw [hu] at hF
  obtain ⟨sl, hF', hby⟩ := hF
  obtain ⟨A, c, rfl⟩ := hby.shape
  have hal := (Below.refl w.heap.size w).alloc (Nat.le_refl _) (.cells #[.int .i64 0, .int .i64 0, .slice none 0 0] 31)
  have hL := (h2.block (hal.block _ h2.lt)).look hk
  rw [hF'] at hL
  simp only [Option.getD_some, Option.isSome_some] at hL
  obtain ⟨⟨c0, c1⟩, f0, f1⟩ := (PB.below h1 hal).bx
  have hz := Box3.new w (.int .i64 0) (.int .i64 0) (.slice none 0 0)
  have hq := Box3.new (w.alloc (.cells #[.int .i64 0, .int .i64 0, .slice none 0 0] 31)) (.int .i64 m.f) (.int .i64 m.t) (.slice A m.b.length c)
  have hs : ((w.alloc (.cells #[.int .i64 0, .int .i64 0, .slice none 0 0] 31)).alloc (.cells #[.int .i64 m.f, .int .i64 m.t, .slice A m.b.length c] 31)).heap.size = w.heap.size + 2 := by simp
  have hs1 : (w.alloc (.cells #[.int .i64 0, .int .i64 0, .slice none 0 0] 31)).heap.size = w.heap.size + 1 := by simp
  have hal2 := hal.alloc (by simp) (.cells #[.int .i64 m.f, .int .i64 m.t, .slice A m.b.length c] 31)
  rw [hs1] at hq
  have hz2 := hz.alloc (.cells #[.int .i64 m.f, .int .i64 m.t, .slice A m.b.length c] 31)
  have HB := Lib.hid hal2
  have HY := Lib.hid (hby.below hal2)
  have HZ := Lib.hid hz2
  have HS := Lib.hid hs
  clear h1 h2 h3 hF' hal hal2 hby hz hz2 hs
  go_enter Try.func10, Try.ntmps10
  go_wp2_with fail
  obtain ⟨⟨z0, z1, z2⟩, z3, z4, z5⟩ := HZ.out.bx
  obtain ⟨⟨b0, b1, b2⟩, b3, b4, b5⟩ := hq.bx
  clear hL c0 c1 f0 f1 hq hs1
  generalize (w.alloc (.cells #[.int .i64 0, .int .i64 0, .slice none 0 0] 31)).alloc (.cells #[.int .i64 m.f, .int .i64 m.t, .slice A m.b.length c] 31) = W at *
  refine (copied_calls W m.f m.t HY.out hl).mono ?_
  rintro e w2 ⟨A', c', rfl, ho, hb⟩
  have HO := Lib.hid ho
  have HB2 := Lib.hid hb
  obtain ⟨⟨y0, y1, y2⟩, y3, y4, y5⟩ := (HZ.out.below hb).bx
  clear ho hb z0 z1 z2 z3 z4 z5 b0 b1 b2 b3 b4 b5
  go_wp2
  (try simp only [Exit.inBlock, Exit.then])
  refine bodyPost_ret (by simp [results, Try.results10, go_sem, y0, y1, y2]; try rfl) rfl ?_
  have hs := HS.out
  have hb2 := HB.out.trans (HB2.out.mono (by omega))
  refine ⟨A', c', rfl, ((((HO.out.set _ _ (by show w.heap.size < _; omega)).set _ _ (by show w.heap.size < _; omega)).set _ _ (by show w.heap.size < _; omega))).lower (by omega), ?_⟩
  exact ((hb2.setCell (Nat.le_refl _) _).setCell (Nat.le_refl _) _).setCell (Nat.le_refl _) _
set_option maxRecDepth 100000 in
set_option maxHeartbeats 1000000 in
/-- 'p.Copy(n)': there is none. -/
theorem copy_none (w : World) {ok : Nat → Prop} {pb : Nat} {All : List Md} (k : Int) (hk : int64 k) (h : PoolAt w ok pb All) (hu : under All k = none) :
    Calls Try.prog 12 #[.pointer (some ⟨pb, 0, none⟩), .int .i64 k] w fun e w' => e = .returned (.tuple #[.int .i64 0, .int .i64 15]) ∧ Below w.heap.size w w' := by
  obtain ⟨mb, F, h1, hok1, hok2, h2, h3⟩ := h
  have hF := h3 k hk
  rw [hu] at hF
  have hF' : F k = none := hF
  have hL := h2.look hk
  rw [hF'] at hL
  simp only [Option.getD_none, Option.isSome_none] at hL
  unfold letter0 at hL
  obtain ⟨⟨c0, c1⟩, f0, f1⟩ := PB.bx h1
  clear h1 h2 h3 hF hF'
  go_enter Try.func12, Try.ntmps12
  go_wp2
  go_ret2
  exact ⟨rfl, (Below.refl _ _).alloc (Nat.le_refl _) _⟩
set_option maxRecDepth 100000 in
set_option maxHeartbeats 1000000 in
/-- 'p.Copy(n)': one more like it. -/
theorem copy_some (w : World) {ok : Nat → Prop} {pb : Nat} {All : List Md} (k : Int) (hk : int64 k) (h : PoolAt w ok pb All) {m : Md} (hu : under All k = some m) (hl : m.b.length ≤ 140737488355328) (hn : All.length < 140737488355328) :
    Calls Try.prog 12 #[.pointer (some ⟨pb, 0, none⟩), .int .i64 k] w fun e w' => e = .returned (.tuple #[.int .i64 (All.length + 1), .int .i64 0]) ∧ PoolAt w' (grow ok w) pb (All ++ [⟨m.f, m.t, m.b, false⟩]) ∧ Turn ok w w' := by
  have HP := Lib.hid h
  obtain ⟨mb, F, h1, hok1, hok2, h2, h3⟩ := h
  have hF := h3 k hk
  rw [hu] at hF
  obtain ⟨sl, hF', hby⟩ := hF
  obtain ⟨A, c, rfl⟩ := hby.shape
  have hL := h2.look hk
  rw [hF'] at hL
  simp only [Option.getD_some, Option.isSome_some] at hL
  obtain ⟨⟨c0, c1⟩, f0, f1⟩ := PB.bx h1
  have hal := (Below.refl w.heap.size w).alloc (Nat.le_refl _) (.cells #[.int .i64 m.f, .int .i64 m.t, .slice A m.b.length c] 31)
  have HY := Lib.hid (hby.below hal)
  have HA := Lib.hid hal
  clear h1 h2 h3 hF' hby
  go_enter Try.func12, Try.ntmps12
  go_wp2_with (go_at_call 9; refine (put_calls _ m.f m.t (HP.out.below HA.out) HY.out hl hn).mono ?_; rintro e w2 ⟨rfl, hp2, ht2⟩; have HP2 := Lib.hid hp2; have HT2 := Lib.hid ht2; clear hp2 ht2)
  go_ret2
  exact ⟨rfl, HP2.out.mono fun b hb => hb.imp id fun h => by simp at h; omega, (Turn.of_below HA.out).trans (HT2.out.mono fun b hb => .inl hb)⟩
/-- The pool's map without a key. -/
theorem PoolAt.del {w w2 w3 : World} {ok : Nat → Prop} {pb mb : Nat} {All All' : List Md} {F : Int → Option Value} {k : Int} (hok1 : ok pb) (hok2 : ok mb) (hP : PB w pb All.length mb) (hH : ∀ x, int64 x → Holds w ok pb mb (under All x) (F x)) (hb : Turn (fun _ => False) w w2)
    (hM3 : MapF w3 mb All.length (fun x => if x = k then none else F x)) (hg : w2.grownBy w3 (some mb)) (hne : pb ≠ mb) (hlen : All'.length = All.length) (hu : ∀ x, under All' x = if x = k then none else under All x) :
    PoolAt w3 ok pb All' := by
  refine ⟨mb, _, ?_, hok1, hok2, by rw [hlen]; exact hM3, fun x hx => ?_⟩
  · rw [hlen]
    exact ((hg.block _ (Nat.lt_of_lt_of_le (heap_lt hP) hb.size) (by simpa using hne)).trans (hb.block _ (heap_lt hP) (fun h => h))).trans hP
  · rw [hu]
    by_cases e : x = k
    · simp only [if_pos e]
      rfl
    · simp only [if_neg e]
      exact (hH x hx).loc fun b _ _ hnm hlt => (hg.block b (Nat.lt_of_lt_of_le hlt hb.size) (by simpa using hnm)).trans (hb.block b hlt (fun h => h))
/-- A message is spent. -/
theorem under_spent {All : List Md} {k : Int} {m : Md} (h : under All k = some m) : ∀ x, under (All.set (k.toNat - 1) { m with s := true }) x = if x = k then none else under All x := by
  intro x
  rw [under_set h]
  rfl
theorem under_gone {All : List Md} {k : Int} (h : under All k = none) : ∀ x, under All x = if x = k then none else under All x := by
  intro x
  by_cases e : x = k
  · rw [if_pos e, e, h]
  · rw [if_neg e]
def md0 : Md := ⟨0, 0, [], true⟩
def errOf (x : Option Md) : Int := if x.isSome then 0 else 15
/-- 'p.Look(n)', whatever stands there. -/
theorem look_calls (w : World) {ok : Nat → Prop} {pb : Nat} {All : List Md} (k : Int) (hk : int64 k) (h : PoolAt w ok pb All) {x : Option Md} (hu : under All k = x) (hl : (x.getD md0).b.length ≤ 140737488355328) :
    Calls Try.prog 10 #[.pointer (some ⟨pb, 0, none⟩), .int .i64 k] w fun e w' => ∃ A c, e = .returned (.tuple #[.agg #[.int .i64 (x.getD md0).f, .int .i64 (x.getD md0).t, .slice A (x.getD md0).b.length c], .int .i64 (errOf x)]) ∧ RowB w' w.heap.size (.slice A (x.getD md0).b.length c) (x.getD md0).b ∧ Below w.heap.size w w' := by
  cases x with
  | none => exact (look_none w k hk h hu).mono fun e w' ⟨he, hb⟩ => ⟨none, 0, he, World.ownsRow_nil _ _ _ _, hb⟩
  | some m => exact look_some w k hk h hu hl
set_option maxRecDepth 100000 in
set_option maxHeartbeats 1000000 in
/-- 'p.Take(n)'. -/
theorem take_core (w : World) {ok : Nat → Prop} {pb : Nat} {All All' : List Md} (k : Int) (hk : int64 k) (h : PoolAt w ok pb All) (f t r : Int) (bs : List UInt8)
    (hlook : ∀ W, PoolAt W ok pb All → Calls Try.prog 10 #[.pointer (some ⟨pb, 0, none⟩), .int .i64 k] W fun e w' => ∃ A c, e = .returned (.tuple #[.agg #[.int .i64 f, .int .i64 t, .slice A bs.length c], .int .i64 r]) ∧ RowB w' W.heap.size (.slice A bs.length c) bs ∧ Below W.heap.size W w')
    (hlen : All'.length = All.length) (hu : ∀ x, under All' x = if x = k then none else under All x) :
    Calls Try.prog 16 #[.pointer (some ⟨pb, 0, none⟩), .int .i64 k] w fun e w' => ∃ A c, e = .returned (.tuple #[.agg #[.int .i64 f, .int .i64 t, .slice A bs.length c], .int .i64 r]) ∧ RowB w' w.heap.size (.slice A bs.length c) bs ∧ PoolAt w' ok pb All' ∧ Turn ok w w' := by
  have HP := Lib.hid h
  obtain ⟨mb, F, h1, ⟨hok1, hlt1⟩, ⟨hok2, hlt2⟩, h2, h3⟩ := h.bd
  have hne := PB.ne h1 h2
  have hal := (Below.refl w.heap.size w).alloc (Nat.le_refl _) (.cells #[.int .i64 0, .int .i64 0, .slice none 0 0] 31)
  have HZ := Lib.hid (Box3.new w (.int .i64 0) (.int .i64 0) (.slice none 0 0))
  have HA := Lib.hid hal
  have H1 := Lib.hid h1
  have H2 := Lib.hid h2
  have H3 := Lib.hid h3
  have HL := Lib.hid hlook
  have HU := Lib.hid hu
  have hs0 : (w.alloc (.cells #[.int .i64 0, .int .i64 0, .slice none 0 0] 31)).heap.size = w.heap.size + 1 := by simp
  clear h1 h2 h3 hlook hu
  go_enter Try.func16, Try.ntmps16
  go_wp2_with fail
  generalize w.alloc (.cells #[.int .i64 0, .int .i64 0, .slice none 0 0] 31) = W at *
  refine (HL.out W (HP.out.below hal)).mono ?_
  rintro e w2 ⟨A, c, rfl, ho, hb⟩
  have hb2 : Below w.heap.size w w2 := hal.trans (hb.mono hal.size)
  have hb3 := hb2.alloc hb2.size (.cells #[.int .i64 f, .int .i64 t, .slice A bs.length c] 31)
  obtain ⟨w3, hr, hM3, hg, hs⟩ := (H2.out.block (hb3.block _ H2.out.lt)).drop hk 0
  obtain ⟨⟨c0, c1⟩, f0, f1⟩ := (PB.below H1.out hb3).bx
  have hz3 : Box3 w3 w.heap.size (.int .i64 0) (.int .i64 0) (.slice none 0 0) := (hg.block _ (Nat.lt_of_lt_of_le (heap_lt (HZ.out.below hb)) (by simp)) (by have := H2.out.lt; simp; omega)).trans ((HZ.out.below hb).alloc _)
  have hq3 : Box3 w3 w2.heap.size (.int .i64 f) (.int .i64 t) (.slice A bs.length c) := (hg.block _ (by simp) (by have := H2.out.lt; have := hb2.size; simp; omega)).trans (Box3.new w2 _ _ _)
  obtain ⟨⟨z0, z1, z2⟩, z3, z4, z5⟩ := hz3.bx
  obtain ⟨⟨q0, q1, q2⟩, q3, q4, q5⟩ := hq3.bx
  have HB2 := Lib.hid hb2
  have HB3 := Lib.hid hb3
  have HG := Lib.hid hg
  have HM := Lib.hid hM3
  have HS := Lib.hid hs
  have HO := Lib.hid ho
  have HS0 := Lib.hid hs0
  clear hb2 hb3 hg hM3 hs ho hz3 hq3 hs0 hal hb
  go_wp2
  (try simp only [Exit.inBlock, Exit.then])
  refine bodyPost_ret (by simp [results, Try.results16, go_sem, z0, z1, z2]; try rfl) rfl ?_
  have hlt := H2.out.lt
  have hsz := HS0.out
  have hd : PoolAt w3 (fun b => ok b ∧ b < w.heap.size) pb All' := PoolAt.del ⟨hok1, hlt1⟩ ⟨hok2, hlt2⟩ H1.out H3.out (Turn.of_below HB3.out) HM.out HG.out hne hlen HU.out
  refine ⟨A, c, rfl, ?_, ?_, ?_⟩
  · refine ((((?_ : RowB w3 W.heap.size _ _).set _ _ (by show w.heap.size < _; omega)).set _ _ (by show w.heap.size < _; omega)).set _ _ (by show w.heap.size < _; omega)).lower (by omega)
    exact (HO.out.below ((Below.refl _ _).alloc (Nat.le_refl _) _)).keep fun b hb hblt => HG.out.block b hblt (by simp; omega)
  · refine (hd.loc (fun b hb _ => ?_)).mono fun b hb => hb.1
    have hq := hb.2
    exact ((Below.heap_setCell _ _ _ _ (by show b ≠ w.heap.size; omega)).trans (Below.heap_setCell _ _ _ _ (by show b ≠ w.heap.size; omega))).trans (Below.heap_setCell _ _ _ _ (by show b ≠ w.heap.size; omega))
  · refine ((((Turn.of_below (ok := ok) HB3.out).trans (Turn.of_grown HG.out fun x hx => ?_)).trans (Turn.setCell _ _ _ ?_)).trans (Turn.setCell _ _ _ ?_)).trans (Turn.setCell _ _ _ ?_)
    · simp at hx
      exact .inl (.inl (hx ▸ hok2))
    · exact .inr (Nat.le_refl _)
    · exact .inr (Nat.le_refl _)
    · exact .inr (Nat.le_refl _)
/-- All messages behind a Take of k. -/
def spentAt (All : List Md) (k : Int) : List Md := match under All k with
  | some m => All.set (k.toNat - 1) { m with s := true }
  | none => All
theorem spentAt_length (All : List Md) (k : Int) : (spentAt All k).length = All.length := by unfold spentAt; split <;> simp
theorem under_spentAt (All : List Md) (k x : Int) : under (spentAt All k) x = if x = k then none else under All x := by
  unfold spentAt
  split
  · rename_i m h
    exact under_spent h x
  · rename_i h
    exact under_gone h x
theorem take_calls (w : World) {ok : Nat → Prop} {pb : Nat} {All : List Md} (k : Int) (hk : int64 k) (h : PoolAt w ok pb All) {x : Option Md} (hu : under All k = x) (hl : (x.getD md0).b.length ≤ 140737488355328) :
    Calls Try.prog 16 #[.pointer (some ⟨pb, 0, none⟩), .int .i64 k] w fun e w' => ∃ A c, e = .returned (.tuple #[.agg #[.int .i64 (x.getD md0).f, .int .i64 (x.getD md0).t, .slice A (x.getD md0).b.length c], .int .i64 (errOf x)]) ∧ RowB w' w.heap.size (.slice A (x.getD md0).b.length c) (x.getD md0).b ∧ PoolAt w' ok pb (spentAt All k) ∧ Turn ok w w' :=
  take_core w k hk h _ _ _ _ (fun W hW => look_calls W k hk hW hu hl) (spentAt_length All k) (under_spentAt All k)
set_option maxRecDepth 100000 in
/-- 'p.Drop(n)'. -/
theorem drop_calls (w : World) {ok : Nat → Prop} {pb : Nat} {All : List Md} (k : Int) (hk : int64 k) (h : PoolAt w ok pb All) {x : Option Md} (hu : under All k = x) (hl : (x.getD md0).b.length ≤ 140737488355328) :
    Calls Try.prog 14 #[.pointer (some ⟨pb, 0, none⟩), .int .i64 k] w fun e w' => e = .returned (.int .i64 (errOf x)) ∧ PoolAt w' ok pb (spentAt All k) ∧ Turn ok w w' := by
  have HP := Lib.hid h
  clear h
  go_enter Try.func14, Try.ntmps14
  go_wp2_with (go_at_call 16; refine (take_calls _ k hk HP.out hu hl).mono ?_; rintro e w2 ⟨A, c, rfl, ho, hp2, ht2⟩; have HP2 := Lib.hid hp2; have HT2 := Lib.hid ht2; clear hp2 ht2 ho)
  go_ret
  have hal := (Below.refl w2.heap.size w2).alloc (Nat.le_refl _) (.cells #[.int .i64 (x.getD md0).f, .int .i64 (x.getD md0).t, .slice A (x.getD md0).b.length c] 31)
  exact ⟨rfl, HP2.out.below hal, HT2.out.trans (Turn.of_below hal)⟩
/-- What Trim leaves of a message. -/
def cutOf (b : List UInt8) (cut : Int) : List UInt8 := b.take (b.length - cut.toNat)
def trimAt (All : List Md) (k cut : Int) : List Md := match under All k with
  | some m => if cut < 1 then All else All.set (k.toNat - 1) { m with b := cutOf m.b cut }
  | none => All
def trimErr (x : Option Md) (cut : Int) : Int := match x with
  | some _ => if cut < 1 then 2 else 0
  | none => 15
set_option maxRecDepth 100000 in
set_option maxHeartbeats 1000000 in
/-- 'p.Trim(n, cut)' that is refused. -/
theorem trim_none (w : World) {ok : Nat → Prop} {pb : Nat} {All : List Md} (k : Int) (hk : int64 k) (cut : Int) (h : PoolAt w ok pb All) (hu : under All k = none) :
    Calls Try.prog 13 #[.pointer (some ⟨pb, 0, none⟩), .int .i64 k, .int .i64 cut] w fun e w' => e = .returned (.int .i64 15) ∧ Below w.heap.size w w' := by
  obtain ⟨mb, F, h1, hok1, hok2, h2, h3⟩ := h
  have hF := h3 k hk
  rw [hu] at hF
  have hF' : F k = none := hF
  have hL := h2.look hk
  rw [hF'] at hL
  simp only [Option.getD_none, Option.isSome_none] at hL
  unfold letter0 at hL
  obtain ⟨⟨c0, c1⟩, f0, f1⟩ := PB.bx h1
  clear h1 h2 h3 hF hF'
  go_enter Try.func13, Try.ntmps13
  go_wp2
  go_ret
  exact ⟨rfl, (Below.refl _ _).alloc (Nat.le_refl _) _⟩
set_option maxRecDepth 100000 in
set_option maxHeartbeats 1000000 in
theorem trim_arg (w : World) {ok : Nat → Prop} {pb : Nat} {All : List Md} (k : Int) (hk : int64 k) (cut : Int) (hc : cut < 1) (h : PoolAt w ok pb All) {m : Md} (hu : under All k = some m) :
    Calls Try.prog 13 #[.pointer (some ⟨pb, 0, none⟩), .int .i64 k, .int .i64 cut] w fun e w' => e = .returned (.int .i64 2) ∧ Below w.heap.size w w' := by
  obtain ⟨mb, F, h1, hok1, hok2, h2, h3⟩ := h
  have hF := h3 k hk
  rw [hu] at hF
  obtain ⟨sl, hF', hby⟩ := hF
  obtain ⟨A, c, rfl⟩ := hby.shape
  have hL := h2.look hk
  rw [hF'] at hL
  simp only [Option.getD_some, Option.isSome_some] at hL
  obtain ⟨⟨c0, c1⟩, f0, f1⟩ := PB.bx h1
  have hd : decide (cut < 1) = true := decide_eq_true hc
  clear h1 h2 h3 hF'
  go_enter Try.func13, Try.ntmps13
  go_wp2
  go_ret
  exact ⟨rfl, (Below.refl _ _).alloc (Nat.le_refl _) _⟩
/-- A beginning of the bytes. -/
theorem Bys.head {w : World} {ok : Nat → Prop} {A : Option Addr} {c : Nat} {bs : List UInt8} (h : Bys w ok (.slice A bs.length c) bs) (L : Nat) (hL : L ≤ bs.length) : Bys w ok (.slice A L L) (bs.take L) := by
  rcases h with ⟨h, h0⟩ | ⟨a, c', h1, h2, h3, h4, h5⟩
  · injection h with h
    subst h0 h
    have : L = 0 := by simpa using hL
    subst this
    exact .inl ⟨rfl, rfl⟩
  · injection h1 with e1 e2 e3
    subst e1
    have hl : (bs.take L).length = L := by rw [List.length_take]; omega
    refine .inr ⟨a, L, by rw [hl], by omega, by omega, fun hne => h4 (fun e => hne (by rw [e]; simp)), fun j u hj => h5 j u ?_⟩
    rw [List.map_take, List.getElem?_take] at hj
    split at hj
    · exact hj
    · cases hj
/-- The pool's map with a message that was cut. -/
theorem PoolAt.cut {w w2 w3 : World} {ok : Nat → Prop} {pb mb : Nat} {All : List Md} {F : Int → Option Value} {k : Int} {m : Md} {A : Option Addr} {c L : Nat} (hok1 : ok pb) (hok2 : ok mb) (hP : PB w pb All.length mb) (hH : ∀ x, int64 x → Holds w ok pb mb (under All x) (F x)) (hb : Below w.heap.size w w2)
    (hM3 : MapF w3 mb All.length (fun x => if x = k then some (.agg #[.int .i64 m.f, .int .i64 m.t, .slice A L L]) else F x)) (hg : w2.grownBy w3 (some mb)) (hne : pb ≠ mb) (hu : under All k = some m) (hby : Bys w (fun b => ok b ∧ b ≠ pb ∧ b ≠ mb) (.slice A m.b.length c) m.b) (hL : L ≤ m.b.length) :
    PoolAt w3 ok pb (All.set (k.toNat - 1) { m with b := m.b.take L }) := by
  have hlen : (All.set (k.toNat - 1) { m with b := m.b.take L }).length = All.length := by simp
  refine ⟨mb, _, ?_, hok1, hok2, by rw [hlen]; exact hM3, fun x hx => ?_⟩
  · rw [hlen]
    exact ((hg.block _ (Nat.lt_of_lt_of_le (heap_lt hP) hb.size) (by simpa using hne)).trans (hb.block _ (heap_lt hP))).trans hP
  · rw [under_set hu]
    by_cases e : x = k
    · simp only [if_pos e]
      rw [if_neg (by simpa using (under_some hu).2.2.2)]
      refine ⟨_, rfl, (hby.head L hL).loc fun b hb1 hlt => ?_⟩
      exact (hg.block b (Nat.lt_of_lt_of_le hlt hb.size) (by simpa using hb1.2.2)).trans (hb.block b hlt)
    · simp only [if_neg e]
      exact (hH x hx).loc fun b _ _ hnm hlt => (hg.block b (Nat.lt_of_lt_of_le hlt hb.size) (by simpa using hnm)).trans (hb.block b hlt)
set_option maxRecDepth 100000 in
set_option maxHeartbeats 1000000 in
/-- 'p.Trim(n, cut)' that cuts. -/
theorem trim_cut (w : World) {ok : Nat → Prop} {pb : Nat} {All : List Md} (k : Int) (hk : int64 k) (cut : Int) (hc : 1 ≤ cut) (hc2 : cut ≤ 9223372036854775807) (h : PoolAt w ok pb All) {m : Md} (hu : under All k = some m) (hl : m.b.length ≤ 140737488355328) (hn : All.length < 140737488355328) :
    Calls Try.prog 13 #[.pointer (some ⟨pb, 0, none⟩), .int .i64 k, .int .i64 cut] w fun e w' => e = .returned (.int .i64 0) ∧ PoolAt w' ok pb (All.set (k.toNat - 1) { m with b := cutOf m.b cut }) ∧ Turn ok w w' := by
  obtain ⟨mb, F, h1, hok1, hok2, h2, h3⟩ := h
  have hne := PB.ne h1 h2
  have hF := h3 k hk
  rw [hu] at hF
  obtain ⟨sl, hF', hby⟩ := hF
  obtain ⟨A, c, rfl⟩ := hby.shape
  have hL := h2.look hk
  rw [hF'] at hL
  simp only [Option.getD_some, Option.isSome_some] at hL
  obtain ⟨⟨c0, c1⟩, f0, f1⟩ := PB.bx h1
  have hd : decide (cut < 1) = false := decide_eq_false (by omega)
  have hnc : m.b.length ≤ c ∨ m.b.length = 0 := by
    rcases hby with ⟨_, e⟩ | ⟨a, c', e, h, _⟩
    · exact .inr (by rw [e]; rfl)
    · injection e with e1 e2 e3
      exact .inl (by omega)
  have key : ∀ L : Nat, L ≤ m.b.length → cutOf m.b cut = m.b.take L → ∃ w3, (Instr.mapUpdate 62 (.map (some mb)) (.int .i64 k) (.agg #[.int .i64 m.f, .int .i64 m.t, .slice A L L])).run Try.prog (w.alloc (.cells #[.int .i64 m.f, .int .i64 m.t, .slice A L L] 31)).drew = .ok () w3 ∧ PoolAt w3 ok pb (All.set (k.toNat - 1) { m with b := cutOf m.b cut }) ∧ Turn ok w w3 ∧
      (w3.cell? ⟨pb, 1, none⟩ = some (.map (some mb)) ∧ w3.cell? ⟨w.heap.size, 0, none⟩ = some (.int .i64 m.f) ∧ w3.cell? ⟨w.heap.size, 1, none⟩ = some (.int .i64 m.t) ∧ w3.cell? ⟨w.heap.size, 2, none⟩ = some (.slice A L L)) ∧
      ((w.alloc (.cells #[.int .i64 m.f, .int .i64 m.t, .slice A L L] 31)).drew.cell? ⟨pb, 1, none⟩ = some (.map (some mb)) ∧ (w.alloc (.cells #[.int .i64 m.f, .int .i64 m.t, .slice A L L] 31)).drew.cell? ⟨w.heap.size, 0, none⟩ = some (.int .i64 m.f) ∧ (w.alloc (.cells #[.int .i64 m.f, .int .i64 m.t, .slice A L L] 31)).drew.cell? ⟨w.heap.size, 1, none⟩ = some (.int .i64 m.t) ∧ (w.alloc (.cells #[.int .i64 m.f, .int .i64 m.t, .slice A L L] 31)).drew.cell? ⟨w.heap.size, 2, none⟩ = some (.slice A L L)) := by
    intro L hLe hcut
    have hal := Below.drew ((Below.refl w.heap.size w).alloc (Nat.le_refl _) (.cells #[.int .i64 m.f, .int .i64 m.t, .slice A L L] 31))
    obtain ⟨w3, hrun, hM3, hg, hs⟩ := (h2.block (hal.block _ h2.lt)).put (by unfold maxLen; omega) hk (.agg #[.int .i64 m.f, .int .i64 m.t, .slice A L L])
    rw [hF'] at hM3
    have hbx : Box3 (w.alloc (.cells #[.int .i64 m.f, .int .i64 m.t, .slice A L L] 31)).drew w.heap.size (.int .i64 m.f) (.int .i64 m.t) (.slice A L L) := Box3.new w _ _ _
    have hb3 : Box3 w3 w.heap.size (.int .i64 m.f) (.int .i64 m.t) (.slice A L L) := (hg.block _ (heap_lt hbx) (by have := h2.lt; simp; omega)).trans hbx
    have hp2 := PB.below h1 hal
    have hp3 : PB w3 pb All.length mb := (hg.block _ (heap_lt hp2) (by simpa using hne)).trans hp2
    refine ⟨w3, hrun, ?_, ?_, ⟨hp3.bx.1.2, hb3.bx.1⟩, ⟨hp2.bx.1.2, hbx.bx.1⟩⟩
    · rw [hcut]
      exact PoolAt.cut hok1 hok2 h1 h3 hal (by simpa using hM3) hg hne hu hby hLe
    · refine (Turn.of_below hal).trans (Turn.of_grown hg fun x hx => ?_)
      simp at hx
      exact .inl (.inl (hx ▸ hok2))
  clear h1 h2 h3 hF' hby
  by_cases hgt : (m.b.length : Int) < cut
  · obtain ⟨w3, hrun, hp, ht, ⟨q1, q2, q3, q4⟩, p1, p2, p3, p4⟩ := key 0 (Nat.zero_le _) (by unfold cutOf; rw [show m.b.length - cut.toNat = 0 by omega])
    have HP := Lib.hid hp
    have HT := Lib.hid ht
    clear key hp ht
    go_enter Try.func13, Try.ntmps13
    go_wp2
    go_region_held3 (fun w' => w'.cell? ⟨pb, 1, none⟩ = some (.map (some mb)) ∧ w'.cell? ⟨w.heap.size, 0, none⟩ = some (.int .i64 m.f) ∧ w'.cell? ⟨w.heap.size, 1, none⟩ = some (.int .i64 m.t) ∧ w'.cell? ⟨w.heap.size, 2, none⟩ = some (.slice A 0 0))
      (first | with_reducible exact ⟨q1, q2, q3, q4⟩ | with_reducible exact ⟨p1, p2, p3, p4⟩) (fail)
    go_wp2
    go_ret
    exact ⟨rfl, HP.out, HT.out⟩
  · have hcc : cut ≤ m.b.length ∧ (m.b.length : Int) - cut ≤ c := by omega
    obtain ⟨w3, hrun, hp, ht, ⟨q1, q2, q3, q4⟩, p1, p2, p3, p4⟩ := key ((m.b.length : Int) - cut).toNat (by omega) (by unfold cutOf; rw [show m.b.length - cut.toNat = ((m.b.length : Int) - cut).toNat by omega])
    have HP := Lib.hid hp
    have HT := Lib.hid ht
    clear key hp ht
    go_enter Try.func13, Try.ntmps13
    go_wp2
    go_region_held3 (fun w' => w'.cell? ⟨pb, 1, none⟩ = some (.map (some mb)) ∧ w'.cell? ⟨w.heap.size, 0, none⟩ = some (.int .i64 m.f) ∧ w'.cell? ⟨w.heap.size, 1, none⟩ = some (.int .i64 m.t) ∧ w'.cell? ⟨w.heap.size, 2, none⟩ = some (.slice A ((m.b.length : Int) - cut).toNat ((m.b.length : Int) - cut).toNat))
      (first | with_reducible exact ⟨q1, q2, q3, q4⟩ | with_reducible exact ⟨p1, p2, p3, p4⟩) (fail)
    go_wp2
    go_ret
    exact ⟨rfl, HP.out, HT.out⟩
/-- 'p.Trim(n, cut)', whatever. -/
theorem trim_calls (w : World) {ok : Nat → Prop} {pb : Nat} {All : List Md} (k : Int) (hk : int64 k) (cut : Int) (hc : int64 cut) (h : PoolAt w ok pb All) {x : Option Md} (hu : under All k = x) (hl : (x.getD md0).b.length ≤ 140737488355328) (hn : All.length < 140737488355328) :
    Calls Try.prog 13 #[.pointer (some ⟨pb, 0, none⟩), .int .i64 k, .int .i64 cut] w fun e w' => e = .returned (.int .i64 (trimErr x cut)) ∧ PoolAt w' ok pb (trimAt All k cut) ∧ Turn ok w w' := by
  unfold trimAt trimErr
  rw [hu]
  cases x with
  | none => exact (trim_none w k hk cut h hu).mono fun e w' ⟨he, hb⟩ => ⟨he, h.below hb, Turn.of_below hb⟩
  | some m =>
    by_cases hcut : cut < 1
    · simp only [if_pos hcut]
      exact (trim_arg w k hk cut hcut h hu).mono fun e w' ⟨he, hb⟩ => ⟨he, h.below hb, Turn.of_below hb⟩
    · simp only [if_neg hcut]
      exact trim_cut w k hk cut (by omega) hc.2 h hu hl hn
end Go.Proofs.Ytdgcmihnbkamgaa
