/- PoolBytes: the pools' calls over a family. Conditions: the messages as long as what may come in; fewer than 2^41 messages. -/
import Derived.Test.YtdgcmihnbkamgaaPoolY
namespace Go.Proofs.Ytdgcmihnbkamgaa
open Go.RowKit
set_option linter.unusedVariables false
set_option linter.unusedSimpArgs false
/-- The pool alone, the document's alone. -/
def poolItem (pb : Nat) (All : List Md) : Item := ⟨fun w ok => PoolAt w ok pb All, fun h hk => h.loc hk, fun h => h.bd⟩
def refItem (rb : Nat) (All : List Md) : Item := ⟨fun w ok => RefAt w ok rb All, fun h hk => h.loc hk, fun h => h.bd⟩
section
variable {w w' : World} {ex : Nat → Prop} {l : List Item} {pb rb : Nat} {All : List Md}
theorem Fam.split (h : Fam w ex (pairItem pb rb All :: l)) : Fam w ex (poolItem pb All :: refItem rb All :: l) := by
  obtain ⟨oks, h1, h2, h3, h4⟩ := h
  cases h1 with
  | cons a t =>
    rename_i ok oks
    obtain ⟨p, r, a1, a2, a3, a4, a5⟩ := a
    have h2' := List.pairwise_cons.1 h2
    refine ⟨p :: r :: oks, .cons a1 (.cons a2 t), .cons (fun q hq b hb hqb => ?_) (.cons (fun q hq b hb hqb => h2'.1 q hq b (a5 b hb) hqb) h2'.2), fun q hq b hb => ?_, h4⟩
    · rcases List.mem_cons.1 hq with rfl | hq
      · exact a3 b hb hqb
      · exact h2'.1 q hq b (a4 b hb) hqb
    · rcases List.mem_cons.1 hq with rfl | hq
      · exact h3 ok (by simp) b (a4 b hb)
      · rcases List.mem_cons.1 hq with rfl | hq
        · exact h3 ok (by simp) b (a5 b hb)
        · exact h3 q (by simp [hq]) b hb
theorem Fam.join (h : Fam w ex (poolItem pb All :: refItem rb All :: l)) : Fam w ex (pairItem pb rb All :: l) := by
  obtain ⟨oks, h1, h2, h3, h4⟩ := h
  cases h1 with
  | cons a t =>
    cases t with
    | cons a2 t =>
      rename_i p r oks
      have h2' := List.pairwise_cons.1 h2
      have h2'' := List.pairwise_cons.1 h2'.2
      refine ⟨(fun b => p b ∨ r b) :: oks, .cons ⟨p, r, a, a2, fun b hb hb' => h2'.1 r (by simp) b hb hb', fun b hb => .inl hb, fun b hb => .inr hb⟩ t, .cons (fun q hq b hb hqb => ?_) h2''.2, fun q hq b hb => ?_, h4⟩
      · rcases hb with hb | hb
        · exact h2'.1 q (by simp [hq]) b hb hqb
        · exact h2''.1 q hq b hb hqb
      · rcases List.mem_cons.1 hq with rfl | hq
        · rcases hb with hb | hb
          · exact h3 p (by simp) b hb
          · exact h3 r (by simp) b hb
        · exact h3 q (by simp [hq]) b hb
/-- The first turns in its own blocks, and something new comes in new blocks. -/
theorem Fam.turnAdd {i : Item} (h : Fam w ex (i :: l)) : ∃ ok : Nat → Prop, i.P w ok ∧ ∀ (w' : World) (i' j : Item), i'.P w' ok → j.P w' (fun b => w.heap.size ≤ b) → Turn ok w w' → Fam w' ex (j :: i' :: l) ∧ Turn (fun b => ¬ ex b) w w' := by
  obtain ⟨oks, h1, h2, h3, h4⟩ := h
  cases h1 with
  | cons a t =>
    rename_i ok oks
    have h2' := List.pairwise_cons.1 h2
    refine ⟨ok, a, fun w' i' j hi' hj ht => ?_⟩
    have hs := ht.size
    refine ⟨⟨(fun b => w.heap.size ≤ b ∧ b < w'.heap.size) :: ok :: oks, .cons (j.bd hj) (.cons hi' (forall2_mono t fun i q _ hq h => i.loc h fun b hb hlt => ht.block b hlt fun e => h2'.1 q hq b e hb)), .cons (fun q hq b hb hqb => ?_) h2, fun q hq b hb => ?_, fun b hb => by have := h4 b hb; omega⟩, ht.mono fun b hb => (h3 ok (by simp) b hb).1⟩
    · have := (h3 q hq b hqb).2
      omega
    · rcases List.mem_cons.1 hq with rfl | hq
      · exact ⟨fun e => by have := h4 b e; omega, hb.2⟩
      · exact ⟨(h3 q hq b hb).1, by have := (h3 q hq b hb).2; omega⟩
/-- One more behind a row of one-cell things. -/
theorem Fam.more {t e : TypeId} {bytes : Nat} {z v : Value} {n : Nat} {cs : List Value} (h : Fam w ex (rowItem e 1 v n cs :: l)) (ty : TypeId) (x : Value) (ht : Try.prog.underlying t = some (.slice e)) (hinfo : (Try.prog.info? e).map (fun i => (i.zero, i.size, i.bytes)) = some (some z, 1, bytes)) (hz : z.cells.size = 1) (h1 : x.oneCell' = true) (hl : Fits n bytes) (hn : n < 9223372036854775807) :
    ∃ A' c' w', (Builtin.append_ #[t, t] ty #[v, .slice (some ⟨w.heap.size, 0, none⟩) 1 1]).run Try.prog (w.alloc (.cells #[x] e)) = .ok (.slice A' (n + 1) c') w' ∧ Fam w' ex (rowItem e 1 (.slice A' (n + 1) c') (n + 1) (cs ++ [x]) :: l) ∧ Turn (fun b => ¬ ex b) w w' := by
  obtain ⟨ok, hP, _, hs⟩ := h.turn
  obtain ⟨v', w', hr, ho, ht', _⟩ := row_more w t ty e hP x ht hinfo hz h1 hl hn
  obtain ⟨A', c', rfl, _⟩ := RowO.shape ho
  obtain ⟨hF, hT⟩ := hs w' (rowItem e 1 (.slice A' (n + 1) c') (n + 1) (cs ++ [x])) ho ht'
  exact ⟨A', c', w', hr, hF, hT⟩
end
/-- No message is longer than what may come in. -/
def BndB (All : List Md) : Prop := ∀ m, m ∈ All → m.b.length ≤ 140737488351232
section
variable {All : List Md}
theorem BndB.bnd (h : BndB All) : Bnd All := fun m hm => Nat.le_trans (h m hm) (by decide)
theorem BndB.snoc (h : BndB All) {m : Md} (hm : m.b.length ≤ 140737488351232) : BndB (All ++ [m]) := fun x hx => (List.mem_append.1 hx).elim (h x) fun e => by simp at e; subst e; exact hm
theorem BndB.set (h : BndB All) {m : Md} (hm : m.b.length ≤ 140737488351232) (i : Nat) : BndB (All.set i m) := fun x hx => (List.mem_or_eq_of_mem_set hx).elim (h x) fun e => by subst e; exact hm
theorem BndB.spent (h : BndB All) (k : Int) : BndB (spentAt All k) := by
  unfold spentAt
  split
  · rename_i m hm
    exact h.set (m := { m with s := true }) (h m (under_mem hm)) _
  · exact h
theorem BndB.trim (h : BndB All) (k c : Int) : BndB (trimAt All k c) := by
  unfold trimAt
  split
  · rename_i m hm
    split
    · exact h
    · exact h.set (m := { m with b := cutOf m.b c }) (Nat.le_trans (cutOf_le _ _) (h m (under_mem hm))) _
  · exact h
theorem BndB.play (h : BndB All) (k n x y : Int) {b : List UInt8} (hb : b.length ≤ 140737488351232) : BndB (playStep All k n x y b) := by
  unfold playStep
  split
  · exact h.snoc (m := ⟨x, y, b, false⟩) hb
  split
  · exact h.spent n
  split
  · split
    · rename_i m hm
      exact h.snoc (m := ⟨m.f, m.t, m.b, false⟩) (h m (under_mem hm))
    · exact h
  split
  · exact h.trim n x
  · exact h
/-- What is looked at is no longer than that. -/
theorem BndB.got (h : BndB All) (k : Int) : ((under All k).getD md0).b.length ≤ 140737488351232 := by
  cases hu : under All k with
  | none => decide
  | some m => exact h m (under_mem hu)
end
section
variable (w : World) {ex : Nat → Prop} {l : List Item} {pb rb : Nat} {All : List Md}
theorem fam_plays (h : Fam w ex (pairItem pb rb All :: l)) (k : Int) (s : Bool) (n x y : Int) (hnn : int64 n) (hxx : int64 x) {v : Value} {b : List UInt8} (hv : Bys w ex v b) (hl : b.length ≤ 140737488351232) (hn : All.length < 2199023255552) (hbn : BndB All) :
    Calls Try.prog 15 #[.pointer (some ⟨pb, 0, none⟩), .pointer (some ⟨rb, 0, none⟩), .agg #[.int .i64 k, .bool s, .int .i64 n, .int .i64 x, .int .i64 y, v]] w fun e w' => e = .returned (.bool true) ∧ Fam w' ex (pairItem pb rb (playStep All k n x y b) :: l) ∧ Turn (fun b => ¬ ex b) w w' := by
  obtain ⟨ok, hP, hok, hs⟩ := h.turn
  refine (plays_calls w hP k s n x y hnn hxx hv (fun b hb h => (hok b h).1 hb) (by omega) hn hbn.bnd).mono ?_
  rintro e w' ⟨rfl, hp, ht⟩
  exact ⟨rfl, hs w' (pairItem pb rb (playStep All k n x y b)) hp ht⟩
theorem fam_put (h : Fam w ex (poolItem pb All :: l)) (f t : Int) {okb : Nat → Prop} {v : Value} {bs : List UInt8} (hb : Bys w okb v bs) (hl : bs.length ≤ 140737488351232) (hn : All.length < 2199023255552) :
    Calls Try.prog 9 #[.pointer (some ⟨pb, 0, none⟩), .agg #[.int .i64 f, .int .i64 t, v]] w fun e w' => e = .returned (.int .i64 (All.length + 1)) ∧ Fam w' ex (poolItem pb (All ++ [⟨f, t, bs, false⟩]) :: l) ∧ Turn (fun b => ¬ ex b) w w' := by
  obtain ⟨ok, hP, hok, hs⟩ := h.turn
  refine (put_calls w f t hP hb (by omega) (by omega)).mono ?_
  rintro e w' ⟨rfl, hp, ht⟩
  exact ⟨rfl, hs w' (poolItem pb (All ++ [(⟨f, t, bs, false⟩ : Md)])) hp ht⟩
theorem fam_rput (h : Fam w ex (refItem rb All :: l)) (f t : Int) (b : List UInt8) (hn : All.length < 2199023255552) :
    Calls Try.prog 19 #[.pointer (some ⟨rb, 0, none⟩), .int .i64 f, .int .i64 t, .string ⟨b.toArray⟩] w fun e w' => e = .returned (.int .i64 (All.length + 1)) ∧ Fam w' ex (refItem rb (All ++ [⟨f, t, b, false⟩]) :: l) ∧ Turn (fun b => ¬ ex b) w w' := by
  obtain ⟨ok, hP, hok, hs⟩ := h.turn
  refine (rput_calls w f t b hP (by omega)).mono ?_
  rintro e w' ⟨rfl, hp, ht⟩
  exact ⟨rfl, hs w' (refItem rb (All ++ [(⟨f, t, b, false⟩ : Md)])) hp ht⟩
theorem fam_look (h : Fam w ex (poolItem pb All :: l)) (k : Int) (hk : int64 k) (hbn : BndB All) {m : Md} (hm : (under All k).getD md0 = m) {er : Int} (he : errOf (under All k) = er) :
    Calls Try.prog 10 #[.pointer (some ⟨pb, 0, none⟩), .int .i64 k] w fun e w' => ∃ A c, e = .returned (.tuple #[.agg #[.int .i64 m.f, .int .i64 m.t, .slice A m.b.length c], .int .i64 er]) ∧ Fam w' ex (rowItem 5 1 (.slice A m.b.length c) m.b.length (m.b.map U8) :: poolItem pb All :: l) ∧ Below w.heap.size w w' := by
  obtain ⟨ok, hP, _⟩ := h.head
  have hl := hbn.got k
  refine (look_calls w k hk hP rfl (by omega)).mono ?_
  rintro e w' ⟨A, c, rfl, ho, hb⟩
  subst hm he
  exact ⟨A, c, rfl, h.add hb (rowItem 5 1 (.slice A _ c) _ _) ⟨RowB.lower ho (Nat.zero_le _), fun k hk => (ho.lt k hk).1⟩, hb⟩
theorem fam_rlook (h : Fam w ex (refItem rb All :: l)) (k : Int) (hk : int64 k) (hn : All.length < 2199023255552) {m : Md} (hm : (under All k).getD md0 = m) {er : Int} (he : errOf (under All k) = er) :
    Calls Try.prog 20 #[.pointer (some ⟨rb, 0, none⟩), .int .i64 k] w fun e w' => e = .returned (.tuple #[.agg #[.int .i64 m.f, .int .i64 m.t, .string ⟨m.b.toArray⟩, .bool false], .int .i64 er]) ∧ Below w.heap.size w w' := by
  obtain ⟨ok, hP, _⟩ := h.head
  subst hm he
  exact rlook_calls w k hk hP (by omega) rfl
theorem fam_waiting (h : Fam w ex (poolItem pb All :: l)) (hn : All.length < 2199023255552) :
    Calls Try.prog 18 #[.pointer (some ⟨pb, 0, none⟩)] w fun e w' => ∃ A c, e = .returned (.slice A (waits All).length c) ∧ Fam w' ex (rowI (.slice A (waits All).length c) (waits All) :: poolItem pb All :: l) ∧ Below w.heap.size w w' := by
  obtain ⟨ok, hP, _⟩ := h.head
  refine (waiting_calls w hP (by omega)).mono ?_
  rintro e w' ⟨v, rfl, ho, hb⟩
  have hR : RowO w' (fun b => w.heap.size ≤ b) 3 1 v (waits All).length ((waits All).map (Value.int .i64)) := ⟨⟨ho.1, ho.2.imp (fun x => x) (fun ⟨g, c, cur, h1, h2, h3⟩ => ⟨g, c, cur, h1, Nat.zero_le _, h3⟩)⟩, fun k hk => (ho.lt k hk).1⟩
  obtain ⟨A, c, rfl, _⟩ := hR.shape
  exact ⟨A, c, rfl, h.add hb (rowI _ _) hR, hb⟩
theorem fam_take (h : Fam w ex (poolItem pb All :: l)) (k : Int) (hk : int64 k) (hbn : BndB All) {m : Md} (hm : (under All k).getD md0 = m) {er : Int} (he : errOf (under All k) = er) :
    Calls Try.prog 16 #[.pointer (some ⟨pb, 0, none⟩), .int .i64 k] w fun e w' => ∃ A c, e = .returned (.tuple #[.agg #[.int .i64 m.f, .int .i64 m.t, .slice A m.b.length c], .int .i64 er]) ∧ Fam w' ex (rowItem 5 1 (.slice A m.b.length c) m.b.length (m.b.map U8) :: poolItem pb (spentAt All k) :: l) ∧ Turn (fun b => ¬ ex b) w w' := by
  obtain ⟨ok, hP, hs⟩ := h.turnAdd
  have hl := hbn.got k
  refine (take_calls w k hk hP rfl (by omega)).mono ?_
  rintro e w' ⟨A, c, rfl, ho, hp, ht⟩
  subst hm he
  obtain ⟨h1, h2⟩ := hs w' (poolItem pb (spentAt All k)) (rowItem 5 1 (.slice A _ c) _ _) hp ⟨RowB.lower ho (Nat.zero_le _), fun k hk => (ho.lt k hk).1⟩ ht
  exact ⟨A, c, rfl, h1, h2⟩
theorem fam_rspend (h : Fam w ex (refItem rb All :: l)) (k : Int) (hk : int64 k) (hn : All.length < 2199023255552) {m : Md} (hm : (under All k).getD md0 = m) {er : Int} (he : errOf (under All k) = er) :
    Calls Try.prog 23 #[.pointer (some ⟨rb, 0, none⟩), .int .i64 k] w fun e w' => e = .returned (.tuple #[.agg #[.int .i64 m.f, .int .i64 m.t, .string ⟨m.b.toArray⟩, .bool false], .int .i64 er]) ∧ Fam w' ex (refItem rb (spentAt All k) :: l) ∧ Turn (fun b => ¬ ex b) w w' := by
  obtain ⟨ok, hP, _, hs⟩ := h.turn
  subst hm he
  refine (rspend_calls w k hk hP (by omega) rfl).mono ?_
  rintro e w' ⟨rfl, hp, ht⟩
  exact ⟨rfl, hs w' (refItem rb (spentAt All k)) (hp.mono fun b hb => .inl hb) ht⟩
/-- How many messages the document's pool has had. -/
theorem fam_len {w : World} (h : Fam w ex (refItem rb All :: l)) : ∃ A c, w.cell? ⟨rb, 0, none⟩ = some (.slice A All.length c) := by
  obtain ⟨_, ⟨v, h1, _, h3⟩, _⟩ := h.head
  obtain ⟨A, c, rfl, _⟩ := h3.shape
  exact ⟨A, c, (one_bx h1).1⟩
end
end Go.Proofs.Ytdgcmihnbkamgaa
