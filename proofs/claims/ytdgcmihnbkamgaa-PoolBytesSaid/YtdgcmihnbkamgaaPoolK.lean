/- plays: one step on a pool and on the document's pool answers alike: the walk. Conditions: both pools hold the same messages; the step as the script's memory says. -/
import Derived.Test.YtdgcmihnbkamgaaPoolJ
namespace Go.Proofs.Ytdgcmihnbkamgaa
open Go.RowKit
set_option linter.unusedVariables false
set_option linter.unusedSimpArgs false
/-- A pool and the document's pool of the same messages; no block of one is the other's. -/
def Pair (w : World) (ok : Nat → Prop) (pb rb : Nat) (All : List Md) : Prop :=
  ∃ okp okr : Nat → Prop, PoolAt w okp pb All ∧ RefAt w okr rb All ∧ (∀ b, okp b → okr b → False) ∧ (∀ b, okp b → ok b) ∧ ∀ b, okr b → ok b
theorem Pair.mono {w : World} {ok ok' : Nat → Prop} {pb rb : Nat} {All : List Md} (h : Pair w ok pb rb All) (hm : ∀ b, ok b → ok' b) : Pair w ok' pb rb All := by
  obtain ⟨p, r, h1, h2, h3, h4, h5⟩ := h
  exact ⟨p, r, h1, h2, h3, fun b hb => hm b (h4 b hb), fun b hb => hm b (h5 b hb)⟩
theorem Pair.loc {w w' : World} {ok : Nat → Prop} {pb rb : Nat} {All : List Md} (h : Pair w ok pb rb All) (hk : ∀ b, ok b → b < w.heap.size → w'.heap[b]? = w.heap[b]?) : Pair w' ok pb rb All := by
  obtain ⟨p, r, h1, h2, h3, h4, h5⟩ := h
  exact ⟨p, r, h1.loc fun b hb => hk b (h4 b hb), h2.loc fun b hb => hk b (h5 b hb), h3, h4, h5⟩
theorem Pair.bd {w : World} {ok : Nat → Prop} {pb rb : Nat} {All : List Md} (h : Pair w ok pb rb All) : Pair w (fun b => ok b ∧ b < w.heap.size) pb rb All := by
  obtain ⟨p, r, h1, h2, h3, h4, h5⟩ := h
  exact ⟨_, _, h1.bd, h2.bd, fun b hb hb' => h3 b hb.1 hb'.1, fun b hb => ⟨h4 b hb.1, hb.2⟩, fun b hb => ⟨h5 b hb.1, hb.2⟩⟩
theorem Pair.below {w w' : World} {ok : Nat → Prop} {pb rb : Nat} {All : List Md} (h : Pair w ok pb rb All) (hb : Below w.heap.size w w') : Pair w' ok pb rb All := h.loc fun b _ hlt => hb.block b hlt
/-- What a step leaves. -/
def playStep (All : List Md) (k n x y : Int) (b : List UInt8) : List Md :=
  if k = 1 then All ++ [⟨x, y, b, false⟩] else if k = 3 ∨ k = 4 then spentAt All n else if k = 5 then (match under All n with | some m => All ++ [⟨m.f, m.t, m.b, false⟩] | none => All) else if k = 6 then trimAt All n x else All
/-- What a step turns: the pair's own blocks. -/
def Played (w w' : World) (ok : Nat → Prop) (pb rb : Nat) (All' : List Md) : Prop := Pair w' (grow ok w) pb rb All' ∧ Turn ok w w'
/-- A step that turns nothing. -/
theorem Played.still {w w' : World} {ok : Nat → Prop} {pb rb : Nat} {All : List Md} (h : Pair w ok pb rb All) (hb : Below w.heap.size w w') : Played w w' ok pb rb All := ⟨(h.below hb).mono fun b hb => .inl hb, Turn.of_below hb⟩
/-- First the pool, then the document's. -/
theorem Played.both {w W w2 W2 w3 : World} {ok okp okr P : Nat → Prop} {pb rb : Nat} {All' : List Md} (hb : Below w.heap.size w W) (hdis : ∀ b, okp b → okr b → False) (hp : ∀ b, okp b → ok b) (hr : ∀ b, okr b → ok b) (hlp : ∀ b, okp b → b < w.heap.size) (hlr : ∀ b, okr b → b < w.heap.size)
    (h1 : PoolAt w2 (grow okp W) pb All') (t1 : Turn okp W w2) (hb2 : Below w2.heap.size w2 W2) (h2 : RefAt w3 (grow okr W2) rb All') (t2 : Turn okr W2 w3) : Played w w3 ok pb rb All' := by
  have s1 := hb.size
  have s2 := t1.size
  have s3 := hb2.size
  refine ⟨⟨fun b => grow okp W b ∧ b < w2.heap.size, grow okr W2, (h1.bd.below hb2).loc fun b hb' hlt => t2.block b hlt (fun h => ?_), h2, fun b h h' => ?_, fun b h => ?_, fun b h => ?_⟩, ?_⟩
  · rcases hb'.1 with h4 | h4
    · exact hdis b h4 h
    · have := hlr b h; omega
  · rcases h.1 with h4 | h4
    · rcases h' with h5 | h5
      · exact hdis b h4 h5
      · have := hlp b h4; omega
    · rcases h' with h5 | h5
      · have := hlr b h5; omega
      · have := h.2; omega
  · rcases h.1 with h4 | h4
    · exact .inl (hp b h4)
    · exact .inr (by omega)
  · rcases h with h4 | h4
    · exact .inl (hr b h4)
    · exact .inr (by omega)
  · exact (((Turn.of_below hb).trans (t1.mono fun b hb => .inl (hp b hb))).trans (Turn.of_below hb2)).trans (t2.mono fun b hb => .inl (hr b hb))
/-- First the document's, then the pool. -/
theorem Played.back {w W w2 W2 w3 : World} {ok okp okr P : Nat → Prop} {pb rb : Nat} {All' : List Md} (hb : Below w.heap.size w W) (hdis : ∀ b, okp b → okr b → False) (hp : ∀ b, okp b → ok b) (hr : ∀ b, okr b → ok b)
    (h1 : RefAt w2 okr rb All') (t1 : Turn okr W w2) (hb2 : Below w2.heap.size w2 W2) (h2 : PoolAt w3 okp pb All') (t2 : Turn okp W2 w3) : Played w w3 ok pb rb All' :=
  ⟨⟨okp, okr, h2, (h1.below hb2).loc fun b hb' hlt => t2.block b hlt (fun h => hdis b h hb'), hdis, fun b h => .inl (hp b h), fun b h => .inl (hr b h)⟩,
   (((Turn.of_below hb).trans (t1.mono fun b hb => .inl (hr b hb))).trans (Turn.of_below hb2)).trans (t2.mono fun b hb => .inl (hp b hb))⟩
set_option maxRecDepth 100000 in
set_option maxHeartbeats 2000000 in
theorem plays_put (w : World) {ok okb : Nat → Prop} {pb rb : Nat} {All : List Md} (h : Pair w ok pb rb All) (s : Bool) (n x y : Int) {v : Value} {b : List UInt8} (hv : Bys w okb v b) (hvd : ∀ b, okb b → ¬ ok b) (hl : b.length ≤ 140737488355328) (hn : All.length < 2199023255552) :
    Calls Try.prog 15 #[.pointer (some ⟨pb, 0, none⟩), .pointer (some ⟨rb, 0, none⟩), .agg #[.int .i64 1, .bool s, .int .i64 n, .int .i64 x, .int .i64 y, v]] w fun e w' => e = .returned (.bool true) ∧ Played w w' ok pb rb (All ++ [⟨x, y, b, false⟩]) := by
  obtain ⟨A, c, rfl⟩ := hv.shape
  obtain ⟨okp, okr, hP, hR, hdis, hpo, hro⟩ := h
  have hal := (Below.refl w.heap.size w).alloc (Nat.le_refl _) (.cells #[.int .i64 1, .bool s, .int .i64 n, .int .i64 x, .int .i64 y, .slice A b.length c] 28)
  have hB := Box6.new w 1 s n x y (.slice A b.length c)
  have hP := hP.bd.below hal
  have hR := hR.bd.below hal
  have hv := hv.below hal
  have HAL := Lib.hid hal
  go_enter Try.func15, Try.ntmps15
  go_wp2
  generalize w.alloc (.cells #[.int .i64 1, .bool s, .int .i64 n, .int .i64 x, .int .i64 y, .slice A b.length c] 28) = W1 at *
  have hd := Below.drew (Below.refl W1.heap.size W1)
  obtain ⟨v', w3, hr, ho3, hb3⟩ := fresh_append W1.drew 26 (hv.below hd) hl
  obtain ⟨A', c', rfl⟩ := ho3.bys.shape
  have hb3' : Below W1.heap.size W1 w3 := hd.trans hb3
  have hba : Below W1.heap.size W1 (W1.alloc (.cells #[] 5)).drew := Below.drew ((Below.refl _ _).alloc (Nat.le_refl _) _)
  have HR := Lib.hid (show (Builtin.append_ #[26, 26] 26 #[.slice (some ⟨W1.heap.size, 0, none⟩) 0 0, .slice A b.length c]).run Try.prog (W1.alloc (.cells #[] 5)).drew = .ok (.slice A' b.length c') w3 from hr)
  have HQ1 := Lib.hid hB.bx.1
  have HQ2 := Lib.hid (hB.below hba).bx.1
  have HQ3 := Lib.hid (hB.below hb3').bx.1
  have s1 : (convert 26 9 (.slice A b.length c)).run Try.prog W1.drew = .ok (.string ⟨b.toArray⟩) W1.drew := (hv.below hd).str
  have s2 := (hv.below hba).str
  have s3 := (hv.below hb3').str
  have HP3 := Lib.hid (hP.below hb3')
  have HR3 := Lib.hid (hR.below hb3')
  have HB3 := Lib.hid (hB.below hb3')
  have HV3 := Lib.hid (hv.below hb3')
  have HO3 := Lib.hid ho3.bys
  have HH3 := Lib.hid hb3'
  clear hr hb3 hb3' hba hd ho3 hal hP hR hB
  go_region_held3 (fun w' => (w'.cell? ⟨w.heap.size, 0, none⟩ = some (.int .i64 1) ∧ w'.cell? ⟨w.heap.size, 1, none⟩ = some (.bool s) ∧ w'.cell? ⟨w.heap.size, 2, none⟩ = some (.int .i64 n) ∧ w'.cell? ⟨w.heap.size, 3, none⟩ = some (.int .i64 x) ∧ w'.cell? ⟨w.heap.size, 4, none⟩ = some (.int .i64 y) ∧ w'.cell? ⟨w.heap.size, 5, none⟩ = some (.slice A b.length c)) ∧ (convert 26 9 (.slice A b.length c)).run Try.prog w' = .ok (.string ⟨b.toArray⟩) w')
    (first | with_reducible exact ⟨HQ5.out, s5⟩ | with_reducible exact ⟨HQ4.out, s4⟩ | with_reducible exact ⟨HQ3.out, s3⟩ | with_reducible exact ⟨HQ2.out, s2⟩ | exact ⟨HQ1.out, s1⟩)
    (first
      | (go_at_call 19; (refine (rput_calls w4 x y b HR4.out (by omega)).mono ?_); rintro e w5 ⟨rfl, hp5, ht5⟩; have HQ5 := Lib.hid (HB4.out.turn ht5 (fun h => Nat.lt_irrefl _ h.2)).bx.1; have s5 := (HV4.out.turn ht5 (fun b hb h => hvd b hb (hro b h.1))).str; have HP5 := Lib.hid hp5; have HT5 := Lib.hid ht5; clear hp5 ht5)
      | (go_at_call 9; (refine (put_calls w3 x y HP3.out HO3.out hl (by omega)).mono ?_); rintro e w4 ⟨rfl, hp4, ht4⟩; have HB4 := Lib.hid (HB3.out.turn ht4 (fun h => Nat.lt_irrefl _ h.2)); have HQ4 := Lib.hid HB4.out.bx.1; have HP4 := Lib.hid hp4; have HT4 := Lib.hid ht4; have HV4 := Lib.hid (HV3.out.turn ht4 (fun b hb h => hvd b hb (hpo b h.1))); have s4 := HV4.out.str; have HR4 := Lib.hid (HR3.out.loc (w' := w4) (fun b hb hlt => ht4.block b hlt (fun h => hdis b h.1 hb.1))); clear hp4 ht4)
      | (refine step_append_run (by rfl) _ _ _ (by rfl) (by rfl) (by rfl) HR.out ?_))
  all_goals
    go_wp2
    go_ret
    refine ⟨by simp, ?_⟩
    exact Played.both (P := fun _ => True) (HAL.out.trans (HH3.out.mono HAL.out.size)) (fun b h h' => hdis b h.1 h'.1) (fun b h => hpo b h.1) (fun b h => hro b h.1) (fun b h => h.2) (fun b h => h.2) HP4.out HT4.out (Below.refl _ _) HP5.out HT5.out
end Go.Proofs.Ytdgcmihnbkamgaa
